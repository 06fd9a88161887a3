/- A part of the proof of iv: texts of this work put together. -/
import Derived.Test.YtmihjfcbofejoaaGreatDoorQh3
import Derived.KernelRfl
import Derived.WalkKit
import Derived.Laws.Cover1
import Derived.Lib.IndexLaws
import Derived.Shelf.SlMaps.Clone
set_option linter.unusedVariables false
set_option linter.unusedSimpArgs false
set_option linter.unusedSectionVars false
section
namespace Go.Proofs.YtmihjfcbofejoaaGreatDoor
open Go
theorem ti {V:Nat->aa} {x:Nd} {bs:aa} {cur mm at':Nat} (hb:∀ q,q < bs.length->fb V x q=bs.getD q 0) (h1:cur % 512+mm<=512) (h2:cur+mm<=bs.length) (h3:at'<=cur) (h5:(V (ptr V x (cur / 512))).length=512) :
  (bs.drop at').take (cur+mm - at')=(bs.drop at').take (cur - at')++((V (ptr V x (cur / 512))).drop (cur % 512)).take mm:=by
 rw [show cur+mm - at'=(cur - at')+mm from by omega,List.take_add,List.drop_drop,show at'+(cur - at')=cur from by omega]
 congr 1
 apply List.ext_getElem?
 intro j
 simp only [List.getElem?_take,List.getElem?_drop]
 by_cases hj:j < mm
 ·rw [if_pos hj,if_pos hj]
  have:=hb (cur+j) (by omega)
  unfold fb at this
  rw [show (cur+j) / 512=cur / 512 from by omega,show (cur+j) % 512=cur % 512+j from by omega,List.getD_eq_getElem?_getD,List.getD_eq_getElem?_getD,List.getElem?_eq_getElem (by omega),List.getElem?_eq_getElem (by omega)] at this
  rw [List.getElem?_eq_getElem (by omega),List.getElem?_eq_getElem (by omega)]
  exact congrArg some this.symm
 ·rw [if_neg hj,if_neg hj]
theorem Tm {s c a:Nat} {p:Pl} {V0 V:Nat->aa} {D:List Nat} {op:Bool} {F0:FM} {i at' k:Nat} {f:Nat×aa} (h:Rep p V F0) (ho:PlOk p) (hi:F0 i=some f) (hat:at'<=9223372036854775807) (hk:k<=9223372036854775807) :
  Spec Tryz.prog 188 #[.pointer (some ⟨s,0,none⟩),nI i,nI at',nI k] [pt s (stO c a p),pt a (alO c p),TR c p.n V0 V D op] fun F v M=>∃ u,v=.tuple #[u,.int .i64 0]/\M=rowR 5 1 u ((f.2.drop at').take k).length (bvs ((f.2.drop at').take k)) :: [pt s (stO c a p),pt a (alO c p),TR c p.n V0 V D op]++F:=by
 refine Spec.intro Tryz.func188 rfl rfl fun B F=>?_
 simp only [Tryz.ntmps188,List.cons_append,List.nil_append,env0,Nat.reduceAdd]
 have hf:=h.ok i f hi
 have hsz:=hf.sz
 have hbig:=hf.big
 have hlt:=h.lt hi
 have hi2:=ho.i2
 have hlo:=ho.lo
 have htab:=ho.tab
 have hnd:=pj (p:=p) (V:=V) hi
 have hfx:=h.inv.fits i _ _ hnd
 have hbl:=hfx.bl
 have hnl:=au hbl
 have hcl:=h.cntle
 have hszg:(ndL (ldN p V i))[1]?=some (nI f.2.length):=by rw [<- hsz];rfl
 have hmxl:maxLen=9223372036854775807:=rfl
 have hd138:=qk hbig
 rcases (show ¬ at' < f.2.length ∨ (at' < f.2.length/\k < f.2.length - at') ∨ (at' < f.2.length/\¬ k < f.2.length - at') from by omega) with hc | ⟨hc,hc2⟩ | ⟨hc,hc2⟩
 ·obtain ⟨en,hen,hen1,hen2⟩:∃ en,en=f.2.length/\en<=f.2.length/\(f.2.drop at').take k=(f.2.drop at').take (en - at'):=⟨_,rfl,by omega,by rw [List.drop_eq_nil_of_le (by omega),List.take_nil,List.take_nil]⟩
  refine .sr (.assign (.assign (.x (.move (.move ?_)))))
  refine .call (hc:=Tryz.call233) (sp:=zd (i:=i) (V0:=V0) (V:=V) (D:=D) (op:=op) ho (h.lt hi) (h.digI hi)) (h:=?_)
  rintro _ _ ⟨rfl,rfl⟩
  simp only [List.cons_append,List.nil_append]
  refine .move ?_
  refine .extract (.extract ?_)
  refine .allocL zNd rfl fun b10=>?_
  refine .stLA (xs:=ndL nd0) (us:=ndL (ldN p V i)) ?_ dv hnl rfl (dm _)
  refine .assign (.z (.seq (.sr (.move ?_))))
  refine .nei (.z ?_)
  refine .condF rfl rfl ?_
  refine .skip (.next (.seq (.sr (.move ?_))))
  refine .lss ?_
  refine .move ?_
  refine .cast (d:=30) (u:=.bool false) rfl (cB9 (by first|simp;done|simp;omega|unfold nI;simp;omega|omega)) ?_
  refine .gT (.move (.gT ?_))
  refine .lss ?_
  refine .pickF (.z ?_)
  refine .condF rfl (cB9 (by first|simp;done|simp;omega|unfold nI;simp;omega|omega)) ?_
  refine .skip (.next (.sr ?_))
  refine .fa ?_ d5
  refine .ldL (xs:=ndL (ldN p V i)) (i:=1) ?_ sc3 hszg
  refine .cast (d:=35) (u:=nI en) rfl (congrArg nI hen.symm) ?_
  refine .assign (.z (.seq (.sr (.move (.move ?_)))))
  refine .lss ?_
  refine .move ?_
  refine .cast (d:=39) (u:=.bool false) rfl (cB9 (by first|simp;done|simp;omega|unfold nI;simp;omega|omega)) ?_
  refine .gF (.gF (.gF (.gF (.gF (.pickF ?_)))))
  refine .z ?_
  refine .condF rfl rfl ?_
  refine .skip (.next (.sr (.assign ?_)))
  refine .emp (A:=rowR 5 1 (.slice none 0 0) (at' - at') (bvs ((f.2.drop at').take (at' - at')))) (by rw [Nat.sub_self];exact rowR.nil _) ?_
  refine .z (.seq (.block ?_))
  refine .loopA (σ:=Nat×Value) (fun y=>[(0,.pointer (some ⟨s,0,none⟩)),(2,nI y.1),(10,.pointer (some ⟨b10,0,none⟩)),(12,nI en),(13,y.2)]) (fun y=>[rowR 5 1 y.2 (y.1 - at') (bvs ((f.2.drop at').take (y.1 - at'))),row b10 215 (ndL (ldN p V i)),pt s (stO c a p),pt a (alO c p),TR c p.n V0 V D op]++F) (fun y=>at'<=y.1/\(y.1<=en ∨ y.1=at')) (fun y=>en - y.1) (at',.slice none 0 0) ⟨Nat.le_refl _,.inr rfl⟩ ?_
  rintro ⟨cur,u⟩ hy
  obtain ⟨hc1,hc2⟩:=hy
  simp only at hc1 hc2
  refine .seq (.sr (.move (.move ?_)))
  refine .lss (.z ?_)
  refine .cond rfl (fun hb=>?_) (fun hb=>?_)
  ·have hlt2:cur < en:=by have:=of_decide_eq_true hb;omega
   obtain ⟨mm,hmm⟩:∃ mm,mm=min (512 - cur % 512) (en - cur):=⟨_,rfl⟩
   have hSk:stdS (dat f.2.length) (cur / 512)=true:=stdS_iff.2 (.inl (by unfold dat;omega))
   have hrk:=h.inv.rng i _ _ _ hnd hSk
   have hV200:10<=cur / 512->245<=(ldN p V i).bl.getD 10 0/\(ldN p V i).bl.getD 10 0 < p.n:=fun h10=>by
    have:=h.inv.rng i _ _ 200 hnd (stdS_iff.2 (.inr ⟨rfl,by unfold dat;omega⟩))
    rw [dq] at this
    omega
   have hrs:=ti (cur:=cur) (mm:=mm) (at':=at') hf.byt (by omega) (by omega) hc1 (h.inv.len _)
   refine .skip (.next (.block (.sr (.move ?_))))
   refine .ldW (xs:=ndL (ldN p V i)) ?_ dv hnl
   refine .move ?_
   refine .quo ?_
   refine .cast (d:=56) (u:=nI (cur / 512)) rfl (cI9 (by omega)) ?_
   refine .call (hc:=Tryz.call238) (sp:=inBlock (x:=ldN p V i) (k:=cur / 512) (V0:=V0) (V:=V) (D:=D) (op:=op) hbl (by omega) hV200) (h:=?_)
   rintro _ _ ⟨rfl,rfl⟩
   simp only [List.cons_append,List.nil_append]
   refine .move ?_
   refine .extract (.extract ?_)
   refine .assign (.assign (.z (.seq (.sr (.move ?_)))))
   refine .nei (.z ?_)
   refine .condF rfl rfl ?_
   refine .skip (.next (.sr (.move (.nilCheck ?_))))
   refine .fa ?_ dw
   refine .ld ?_ dj
   refine .move ?_
   refine .call (hc:=Tryz.call212) (sp:=pf (n:=p.n) (V0:=V0) (V:=V) (D:=D) (op:=op) (k:=ptr V (ldN p V i) (cur / 512)) (by omega) (by omega)) (h:=?_)
   rintro _ _ ⟨gb,q,el,rfl,⟨hq1,hq2,hl5⟩,rfl⟩
   refine .move ?_
   refine .extract (.extract ?_)
   refine .assign (.assign (.z (.seq (.sr (.move ?_)))))
   refine .nei (.z ?_)
   refine .condF rfl rfl ?_
   refine .skip (.next (.sr (.move ?_)))
   refine .rem ?_
   refine .cast (d:=76) (u:=nI (cur % 512)) rfl (cI9 (by omega)) ?_
   refine .assign (.x (.move (.move ?_)))
   refine .add ?_
   refine .move ?_
   refine .sub ?_
   refine .minI ?_
   refine .cast (d:=82) (u:=nI (cur % 512+mm)) rfl (cI9 (by split<;>omega)) ?_
   refine .assign (.x (.move (.move (.move (.move ?_)))))
   refine .slcLH ?_ so79
   refine .cast (d:=87) (u:=.slice (some ⟨gb,cur % 512,none⟩) mm (q - cur % 512)) rfl (by rw [show ((cur % 512:Nat):Int).toNat=cur % 512 from Int.toNat_natCast _,show ((cur % 512+mm:Nat):Int).toNat=cur % 512+mm from Int.toNat_natCast _,if_neg (by omega),Nat.zero_add,Nat.mul_one,show cur % 512+mm - cur % 512=mm from by omega]) ?_
   have hnews:Reads (buf gb el q (bvs (V (ptr V (ldN p V i) (cur / 512))))) (some ⟨gb,cur % 512,none⟩) (bvs (((V (ptr V (ldN p V i) (cur / 512))).drop (cur % 512)).take mm)):=by
    have:=(Reads.buf (g:=gb) (e:=el) (k:=q) (xs:=bvs (V (ptr V (ldN p V i) (cur / 512))))).drop (cur % 512)
    rw [Nat.zero_add] at this
    rw [ck,ei]
    exact this.take mm
   refine .appendAny (m:=mm) so79 (by decide) (by repeat (first | exact .here | apply Rem.there | apply Repl.there | apply Mem.there)) hnews (by repeat (first | exact .here | apply Rem.there | apply Repl.there | apply Mem.there)) (by rw [ag,List.length_take,List.length_drop,hl5];omega) (bo _) (by omega) (by omega) ⟨_,z5,rfl⟩ (fun vB hvB=>?_)
   refine .assign (.y (.move (.move (.move ?_))))
   refine .sub ?_
   refine .add ?_
   refine .cast (d:=93) (u:=nI (cur+mm)) rfl (cI9 (by omega)) ?_
   refine .assign (.nil (.blockNormal ?_))
   refine .to (A:=rowR 5 1 vB (cur - at'+mm) (bvs ((f.2.drop at').take (cur - at'))++bvs (((V (ptr V (ldN p V i) (cur / 512))).drop (cur % 512)).take mm))) (A':=rowR 5 1 vB (cur+mm - at') (bvs ((f.2.drop at').take (cur+mm - at')))) (fun h hh=>by rw [hrs,bj,show cur+mm - at'=cur - at'+mm from by omega];exact hh) ?_
   exact .back (cur+mm,vB) ⟨by show at'<=cur+mm;omega,by show cur+mm<=en ∨ cur+mm=at';omega⟩ (by show en - (cur+mm) < en - cur;omega)
  ·have hge:¬ cur < en:=by have:=of_decide_eq_false hb;omega
   have hfe:(f.2.drop at').take (cur - at')=(f.2.drop at').take k:=by
    rw [hen2]
    rcases hc2 with h1 | h1
    ·rw [show cur=en from by omega]
    ·rw [show cur - at'=0 from by omega,show en - at'=0 from by omega]
   have hfl:((f.2.drop at').take k).length=cur - at':=by
    rw [<- hfe,List.length_take,List.length_drop]
    omega
   refine .exit (.thenExit (.thenExit (.blockExit (?_))))
   refine .next (.sr (.move (.assign (.assign (.z ?_)))))
   refine .ret (?_)
   refine .to (A:=rowR 5 1 u (cur - at') (bvs ((f.2.drop at').take (cur - at')))) (A':=rowR 5 1 u ((f.2.drop at').take k).length (bvs ((f.2.drop at').take k))) (fun h hh=>by rw [hfl,<-hfe];exact hh) ?_
   exact .ret2 (h1:=.tmp (t:=8) rfl) (h2:=.tmp (t:=9) rfl) ⟨_,⟨u,rfl,rfl⟩,Am.auto⟩
 ·obtain ⟨en,hen,hen1,hen2⟩:∃ en,en=at'+k/\en<=f.2.length/\(f.2.drop at').take k=(f.2.drop at').take (en - at'):=⟨_,rfl,by omega,by congr 1;omega⟩
  refine .sr (.assign (.assign (.x (.move (.move ?_)))))
  refine .call (hc:=Tryz.call233) (sp:=zd (i:=i) (V0:=V0) (V:=V) (D:=D) (op:=op) ho (h.lt hi) (h.digI hi)) (h:=?_)
  rintro _ _ ⟨rfl,rfl⟩
  simp only [List.cons_append,List.nil_append]
  refine .move ?_
  refine .extract (.extract ?_)
  refine .allocL zNd rfl fun b10=>?_
  refine .stLA (xs:=ndL nd0) (us:=ndL (ldN p V i)) ?_ dv hnl rfl (dm _)
  refine .assign (.z (.seq (.sr (.move ?_))))
  refine .nei (.z ?_)
  refine .condF rfl rfl ?_
  refine .skip (.next (.seq (.sr (.move ?_))))
  refine .lss ?_
  refine .move ?_
  refine .cast (d:=30) (u:=.bool false) rfl (cB9 (by first|simp;done|simp;omega|unfold nI;simp;omega|omega)) ?_
  refine .gT (.move (.gT ?_))
  refine .lss ?_
  refine .pickF (.z ?_)
  refine .condF rfl (cB9 (by first|simp;done|simp;omega|unfold nI;simp;omega|omega)) ?_
  refine .skip (.next (.sr ?_))
  refine .fa ?_ d5
  refine .ldL (xs:=ndL (ldN p V i)) (i:=1) ?_ sc3 hszg
  refine .assign (.z (.seq (.sr (.move (.move ?_)))))
  refine .lss ?_
  refine .move ?_
  refine .cast (d:=39) (u:=.bool true) rfl (cB9 (by first|simp;done|simp;omega|unfold nI;simp;omega|omega)) ?_
  refine .gT (.move (.gT (.move (.gT (.move ?_)))))
  refine .gT ?_
  refine .sub ?_
  refine .gT ?_
  refine .lss ?_
  refine .pickT (.z ?_)
  refine .condT rfl (cB9 (by first|simp;done|simp;omega|unfold nI;simp;omega|omega)) ?_
  refine .region (.move (.move ?_))
  refine .add ?_
  refine .cast (d:=48) (u:=nI en) rfl (cI9 (by omega)) ?_
  refine .assign (.x (.assign ?_))
  refine .emp (A:=rowR 5 1 (.slice none 0 0) (at' - at') (bvs ((f.2.drop at').take (at' - at')))) (by rw [Nat.sub_self];exact rowR.nil _) ?_
  refine .z (.seq (.block ?_))
  refine .loopA (σ:=Nat×Value) (fun y=>[(0,.pointer (some ⟨s,0,none⟩)),(2,nI y.1),(10,.pointer (some ⟨b10,0,none⟩)),(12,nI en),(13,y.2)]) (fun y=>[rowR 5 1 y.2 (y.1 - at') (bvs ((f.2.drop at').take (y.1 - at'))),row b10 215 (ndL (ldN p V i)),pt s (stO c a p),pt a (alO c p),TR c p.n V0 V D op]++F) (fun y=>at'<=y.1/\(y.1<=en ∨ y.1=at')) (fun y=>en - y.1) (at',.slice none 0 0) ⟨Nat.le_refl _,.inr rfl⟩ ?_
  rintro ⟨cur,u⟩ hy
  obtain ⟨hc1,hc2⟩:=hy
  simp only at hc1 hc2
  refine .seq (.sr (.move (.move ?_)))
  refine .lss (.z ?_)
  refine .cond rfl (fun hb=>?_) (fun hb=>?_)
  ·have hlt2:cur < en:=by have:=of_decide_eq_true hb;omega
   obtain ⟨mm,hmm⟩:∃ mm,mm=min (512 - cur % 512) (en - cur):=⟨_,rfl⟩
   have hSk:stdS (dat f.2.length) (cur / 512)=true:=stdS_iff.2 (.inl (by unfold dat;omega))
   have hrk:=h.inv.rng i _ _ _ hnd hSk
   have hV200:10<=cur / 512->245<=(ldN p V i).bl.getD 10 0/\(ldN p V i).bl.getD 10 0 < p.n:=fun h10=>by
    have:=h.inv.rng i _ _ 200 hnd (stdS_iff.2 (.inr ⟨rfl,by unfold dat;omega⟩))
    rw [dq] at this
    omega
   have hrs:=ti (cur:=cur) (mm:=mm) (at':=at') hf.byt (by omega) (by omega) hc1 (h.inv.len _)
   refine .skip (.next (.block (.sr (.move ?_))))
   refine .ldW (xs:=ndL (ldN p V i)) ?_ dv hnl
   refine .move ?_
   refine .quo ?_
   refine .cast (d:=56) (u:=nI (cur / 512)) rfl (cI9 (by omega)) ?_
   refine .call (hc:=Tryz.call238) (sp:=inBlock (x:=ldN p V i) (k:=cur / 512) (V0:=V0) (V:=V) (D:=D) (op:=op) hbl (by omega) hV200) (h:=?_)
   rintro _ _ ⟨rfl,rfl⟩
   simp only [List.cons_append,List.nil_append]
   refine .move ?_
   refine .extract (.extract ?_)
   refine .assign (.assign (.z (.seq (.sr (.move ?_)))))
   refine .nei (.z ?_)
   refine .condF rfl rfl ?_
   refine .skip (.next (.sr (.move (.nilCheck ?_))))
   refine .fa ?_ dw
   refine .ld ?_ dj
   refine .move ?_
   refine .call (hc:=Tryz.call212) (sp:=pf (n:=p.n) (V0:=V0) (V:=V) (D:=D) (op:=op) (k:=ptr V (ldN p V i) (cur / 512)) (by omega) (by omega)) (h:=?_)
   rintro _ _ ⟨gb,q,el,rfl,⟨hq1,hq2,hl5⟩,rfl⟩
   refine .move ?_
   refine .extract (.extract ?_)
   refine .assign (.assign (.z (.seq (.sr (.move ?_)))))
   refine .nei (.z ?_)
   refine .condF rfl rfl ?_
   refine .skip (.next (.sr (.move ?_)))
   refine .rem ?_
   refine .cast (d:=76) (u:=nI (cur % 512)) rfl (cI9 (by omega)) ?_
   refine .assign (.x (.move (.move ?_)))
   refine .add ?_
   refine .move ?_
   refine .sub ?_
   refine .minI ?_
   refine .cast (d:=82) (u:=nI (cur % 512+mm)) rfl (cI9 (by split<;>omega)) ?_
   refine .assign (.x (.move (.move (.move (.move ?_)))))
   refine .slcLH ?_ so79
   refine .cast (d:=87) (u:=.slice (some ⟨gb,cur % 512,none⟩) mm (q - cur % 512)) rfl (by rw [show ((cur % 512:Nat):Int).toNat=cur % 512 from Int.toNat_natCast _,show ((cur % 512+mm:Nat):Int).toNat=cur % 512+mm from Int.toNat_natCast _,if_neg (by omega),Nat.zero_add,Nat.mul_one,show cur % 512+mm - cur % 512=mm from by omega]) ?_
   have hnews:Reads (buf gb el q (bvs (V (ptr V (ldN p V i) (cur / 512))))) (some ⟨gb,cur % 512,none⟩) (bvs (((V (ptr V (ldN p V i) (cur / 512))).drop (cur % 512)).take mm)):=by
    have:=(Reads.buf (g:=gb) (e:=el) (k:=q) (xs:=bvs (V (ptr V (ldN p V i) (cur / 512))))).drop (cur % 512)
    rw [Nat.zero_add] at this
    rw [ck,ei]
    exact this.take mm
   refine .appendAny (m:=mm) so79 (by decide) (by repeat (first | exact .here | apply Rem.there | apply Repl.there | apply Mem.there)) hnews (by repeat (first | exact .here | apply Rem.there | apply Repl.there | apply Mem.there)) (by rw [ag,List.length_take,List.length_drop,hl5];omega) (bo _) (by omega) (by omega) ⟨_,z5,rfl⟩ (fun vB hvB=>?_)
   refine .assign (.y (.move (.move (.move ?_))))
   refine .sub ?_
   refine .add ?_
   refine .cast (d:=93) (u:=nI (cur+mm)) rfl (cI9 (by omega)) ?_
   refine .assign (.nil (.blockNormal ?_))
   refine .to (A:=rowR 5 1 vB (cur - at'+mm) (bvs ((f.2.drop at').take (cur - at'))++bvs (((V (ptr V (ldN p V i) (cur / 512))).drop (cur % 512)).take mm))) (A':=rowR 5 1 vB (cur+mm - at') (bvs ((f.2.drop at').take (cur+mm - at')))) (fun h hh=>by rw [hrs,bj,show cur+mm - at'=cur - at'+mm from by omega];exact hh) ?_
   exact .back (cur+mm,vB) ⟨by show at'<=cur+mm;omega,by show cur+mm<=en ∨ cur+mm=at';omega⟩ (by show en - (cur+mm) < en - cur;omega)
  ·have hge:¬ cur < en:=by have:=of_decide_eq_false hb;omega
   have hfe:(f.2.drop at').take (cur - at')=(f.2.drop at').take k:=by
    rw [hen2]
    rcases hc2 with h1 | h1
    ·rw [show cur=en from by omega]
    ·rw [show cur - at'=0 from by omega,show en - at'=0 from by omega]
   have hfl:((f.2.drop at').take k).length=cur - at':=by
    rw [<- hfe,List.length_take,List.length_drop]
    omega
   refine .exit (.thenExit (.thenExit (.blockExit (?_))))
   refine .next (.sr (.move (.assign (.assign (.z ?_)))))
   refine .ret (?_)
   refine .to (A:=rowR 5 1 u (cur - at') (bvs ((f.2.drop at').take (cur - at')))) (A':=rowR 5 1 u ((f.2.drop at').take k).length (bvs ((f.2.drop at').take k))) (fun h hh=>by rw [hfl,<-hfe];exact hh) ?_
   exact .ret2 (h1:=.tmp (t:=8) rfl) (h2:=.tmp (t:=9) rfl) ⟨_,⟨u,rfl,rfl⟩,Am.auto⟩
 ·obtain ⟨en,hen,hen1,hen2⟩:∃ en,en=f.2.length/\en<=f.2.length/\(f.2.drop at').take k=(f.2.drop at').take (en - at'):=⟨_,rfl,by omega,by rw [List.take_of_length_le (by rw [List.length_drop];omega),List.take_of_length_le (by rw [List.length_drop];omega)]⟩
  refine .sr (.assign (.assign (.x (.move (.move ?_)))))
  refine .call (hc:=Tryz.call233) (sp:=zd (i:=i) (V0:=V0) (V:=V) (D:=D) (op:=op) ho (h.lt hi) (h.digI hi)) (h:=?_)
  rintro _ _ ⟨rfl,rfl⟩
  simp only [List.cons_append,List.nil_append]
  refine .move ?_
  refine .extract (.extract ?_)
  refine .allocL zNd rfl fun b10=>?_
  refine .stLA (xs:=ndL nd0) (us:=ndL (ldN p V i)) ?_ dv hnl rfl (dm _)
  refine .assign (.z (.seq (.sr (.move ?_))))
  refine .nei (.z ?_)
  refine .condF rfl rfl ?_
  refine .skip (.next (.seq (.sr (.move ?_))))
  refine .lss ?_
  refine .move ?_
  refine .cast (d:=30) (u:=.bool false) rfl (cB9 (by first|simp;done|simp;omega|unfold nI;simp;omega|omega)) ?_
  refine .gT (.move (.gT ?_))
  refine .lss ?_
  refine .pickF (.z ?_)
  refine .condF rfl (cB9 (by first|simp;done|simp;omega|unfold nI;simp;omega|omega)) ?_
  refine .skip (.next (.sr ?_))
  refine .fa ?_ d5
  refine .ldL (xs:=ndL (ldN p V i)) (i:=1) ?_ sc3 hszg
  refine .cast (d:=35) (u:=nI en) rfl (congrArg nI hen.symm) ?_
  refine .assign (.z (.seq (.sr (.move (.move ?_)))))
  refine .lss ?_
  refine .move ?_
  refine .cast (d:=39) (u:=.bool true) rfl (cB9 (by first|simp;done|simp;omega|unfold nI;simp;omega|omega)) ?_
  refine .gT (.move (.gT (.move (.gT (.move ?_)))))
  refine .gT ?_
  refine .sub ?_
  refine .gT ?_
  refine .lss ?_
  refine .pickT (.z ?_)
  refine .condF rfl (cB9 (by first|simp;done|simp;omega|unfold nI;simp;omega|omega)) ?_
  refine .skip (.next (.sr (.assign ?_)))
  refine .emp (A:=rowR 5 1 (.slice none 0 0) (at' - at') (bvs ((f.2.drop at').take (at' - at')))) (by rw [Nat.sub_self];exact rowR.nil _) ?_
  refine .z (.seq (.block ?_))
  refine .loopA (σ:=Nat×Value) (fun y=>[(0,.pointer (some ⟨s,0,none⟩)),(2,nI y.1),(10,.pointer (some ⟨b10,0,none⟩)),(12,nI en),(13,y.2)]) (fun y=>[rowR 5 1 y.2 (y.1 - at') (bvs ((f.2.drop at').take (y.1 - at'))),row b10 215 (ndL (ldN p V i)),pt s (stO c a p),pt a (alO c p),TR c p.n V0 V D op]++F) (fun y=>at'<=y.1/\(y.1<=en ∨ y.1=at')) (fun y=>en - y.1) (at',.slice none 0 0) ⟨Nat.le_refl _,.inr rfl⟩ ?_
  rintro ⟨cur,u⟩ hy
  obtain ⟨hc1,hc2⟩:=hy
  simp only at hc1 hc2
  refine .seq (.sr (.move (.move ?_)))
  refine .lss (.z ?_)
  refine .cond rfl (fun hb=>?_) (fun hb=>?_)
  ·have hlt2:cur < en:=by have:=of_decide_eq_true hb;omega
   obtain ⟨mm,hmm⟩:∃ mm,mm=min (512 - cur % 512) (en - cur):=⟨_,rfl⟩
   have hSk:stdS (dat f.2.length) (cur / 512)=true:=stdS_iff.2 (.inl (by unfold dat;omega))
   have hrk:=h.inv.rng i _ _ _ hnd hSk
   have hV200:10<=cur / 512->245<=(ldN p V i).bl.getD 10 0/\(ldN p V i).bl.getD 10 0 < p.n:=fun h10=>by
    have:=h.inv.rng i _ _ 200 hnd (stdS_iff.2 (.inr ⟨rfl,by unfold dat;omega⟩))
    rw [dq] at this
    omega
   have hrs:=ti (cur:=cur) (mm:=mm) (at':=at') hf.byt (by omega) (by omega) hc1 (h.inv.len _)
   refine .skip (.next (.block (.sr (.move ?_))))
   refine .ldW (xs:=ndL (ldN p V i)) ?_ dv hnl
   refine .move ?_
   refine .quo ?_
   refine .cast (d:=56) (u:=nI (cur / 512)) rfl (cI9 (by omega)) ?_
   refine .call (hc:=Tryz.call238) (sp:=inBlock (x:=ldN p V i) (k:=cur / 512) (V0:=V0) (V:=V) (D:=D) (op:=op) hbl (by omega) hV200) (h:=?_)
   rintro _ _ ⟨rfl,rfl⟩
   simp only [List.cons_append,List.nil_append]
   refine .move ?_
   refine .extract (.extract ?_)
   refine .assign (.assign (.z (.seq (.sr (.move ?_)))))
   refine .nei (.z ?_)
   refine .condF rfl rfl ?_
   refine .skip (.next (.sr (.move (.nilCheck ?_))))
   refine .fa ?_ dw
   refine .ld ?_ dj
   refine .move ?_
   refine .call (hc:=Tryz.call212) (sp:=pf (n:=p.n) (V0:=V0) (V:=V) (D:=D) (op:=op) (k:=ptr V (ldN p V i) (cur / 512)) (by omega) (by omega)) (h:=?_)
   rintro _ _ ⟨gb,q,el,rfl,⟨hq1,hq2,hl5⟩,rfl⟩
   refine .move ?_
   refine .extract (.extract ?_)
   refine .assign (.assign (.z (.seq (.sr (.move ?_)))))
   refine .nei (.z ?_)
   refine .condF rfl rfl ?_
   refine .skip (.next (.sr (.move ?_)))
   refine .rem ?_
   refine .cast (d:=76) (u:=nI (cur % 512)) rfl (cI9 (by omega)) ?_
   refine .assign (.x (.move (.move ?_)))
   refine .add ?_
   refine .move ?_
   refine .sub ?_
   refine .minI ?_
   refine .cast (d:=82) (u:=nI (cur % 512+mm)) rfl (cI9 (by split<;>omega)) ?_
   refine .assign (.x (.move (.move (.move (.move ?_)))))
   refine .slcLH ?_ so79
   refine .cast (d:=87) (u:=.slice (some ⟨gb,cur % 512,none⟩) mm (q - cur % 512)) rfl (by rw [show ((cur % 512:Nat):Int).toNat=cur % 512 from Int.toNat_natCast _,show ((cur % 512+mm:Nat):Int).toNat=cur % 512+mm from Int.toNat_natCast _,if_neg (by omega),Nat.zero_add,Nat.mul_one,show cur % 512+mm - cur % 512=mm from by omega]) ?_
   have hnews:Reads (buf gb el q (bvs (V (ptr V (ldN p V i) (cur / 512))))) (some ⟨gb,cur % 512,none⟩) (bvs (((V (ptr V (ldN p V i) (cur / 512))).drop (cur % 512)).take mm)):=by
    have:=(Reads.buf (g:=gb) (e:=el) (k:=q) (xs:=bvs (V (ptr V (ldN p V i) (cur / 512))))).drop (cur % 512)
    rw [Nat.zero_add] at this
    rw [ck,ei]
    exact this.take mm
   refine .appendAny (m:=mm) so79 (by decide) (by repeat (first | exact .here | apply Rem.there | apply Repl.there | apply Mem.there)) hnews (by repeat (first | exact .here | apply Rem.there | apply Repl.there | apply Mem.there)) (by rw [ag,List.length_take,List.length_drop,hl5];omega) (bo _) (by omega) (by omega) ⟨_,z5,rfl⟩ (fun vB hvB=>?_)
   refine .assign (.y (.move (.move (.move ?_))))
   refine .sub ?_
   refine .add ?_
   refine .cast (d:=93) (u:=nI (cur+mm)) rfl (cI9 (by omega)) ?_
   refine .assign (.nil (.blockNormal ?_))
   refine .to (A:=rowR 5 1 vB (cur - at'+mm) (bvs ((f.2.drop at').take (cur - at'))++bvs (((V (ptr V (ldN p V i) (cur / 512))).drop (cur % 512)).take mm))) (A':=rowR 5 1 vB (cur+mm - at') (bvs ((f.2.drop at').take (cur+mm - at')))) (fun h hh=>by rw [hrs,bj,show cur+mm - at'=cur - at'+mm from by omega];exact hh) ?_
   exact .back (cur+mm,vB) ⟨by show at'<=cur+mm;omega,by show cur+mm<=en ∨ cur+mm=at';omega⟩ (by show en - (cur+mm) < en - cur;omega)
  ·have hge:¬ cur < en:=by have:=of_decide_eq_false hb;omega
   have hfe:(f.2.drop at').take (cur - at')=(f.2.drop at').take k:=by
    rw [hen2]
    rcases hc2 with h1 | h1
    ·rw [show cur=en from by omega]
    ·rw [show cur - at'=0 from by omega,show en - at'=0 from by omega]
   have hfl:((f.2.drop at').take k).length=cur - at':=by
    rw [<- hfe,List.length_take,List.length_drop]
    omega
   refine .exit (.thenExit (.thenExit (.blockExit (?_))))
   refine .next (.sr (.move (.assign (.assign (.z ?_)))))
   refine .ret (?_)
   refine .to (A:=rowR 5 1 u (cur - at') (bvs ((f.2.drop at').take (cur - at')))) (A':=rowR 5 1 u ((f.2.drop at').take k).length (bvs ((f.2.drop at').take k))) (fun h hh=>by rw [hfl,<-hfe];exact hh) ?_
   exact .ret2 (h1:=.tmp (t:=8) rfl) (h2:=.tmp (t:=9) rfl) ⟨_,⟨u,rfl,rfl⟩,Am.auto⟩
theorem Spec.later {P:Program} {f:FuncId} {args:Array Value} {X Y Z:HP} {R:List HP->Value->List HP->Prop} (h:Spec P f args [Y,Z] R):Spec P f args [X,Y,Z] fun F v M=>R (X :: F) v M:=fun B F w hs=>h B (X :: F) w (Am.wk Am.auto B w hs)
theorem Spec.last {P:Program} {f:FuncId} {args:Array Value} {X Y Z:HP} {R:List HP->Value->List HP->Prop} (h:Spec P f args [Z] R):Spec P f args [X,Y,Z] fun F v M=>R (X :: Y :: F) v M:=fun B F w hs=>h B (X :: Y :: F) w (Am.wk Am.auto B w hs)
theorem Spec.mid {P:Program} {f:FuncId} {args:Array Value} {X Y Z:HP} {R:List HP->Value->List HP->Prop} (h:Spec P f args [X,Z] R):Spec P f args [X,Y,Z] fun F v M=>R (Y :: F) v M:=fun B F w hs=>h B (Y :: F) w (Am.wk Am.auto B w hs)
structure IP (p:Pl) (F0 F:FM) (W:Nat) (y:(Nat->aa)×(Nat->aa)×List Nat):Prop where
 r0:Rep p y.1 F0
 r:Rep p y.2.1 F
 dk:Dk p y.2.2
 wt:wt p y.2.2<=W
def inLs (s a c:Nat) (p:Pl) (op:Bool) (y:(Nat->aa)×(Nat->aa)×List Nat):List HP:=[pt s (stO c a p),pt a (alO c p),TR c p.n y.1 y.2.1 y.2.2 op]
def IN (s a c:Nat) (p:Pl) (F0 F:FM) (W:Nat) (op:Bool):HP:=fun h=>∃ y,IP p F0 F W y/\star (inLs s a c p op y) h
theorem IN.opens (s a c:Nat) (p:Pl) (F0 F:FM) (W:Nat) (op:Bool):Opens (IN s a c p F0 F W op) (IP p F0 F W) (inLs s a c p op):=⟨fun h hh=>hh,fun x hp h hh=>⟨x,hp,hh⟩⟩
attribute [irreducible] IN
def Rw (p:Pl) (W c:Nat):Prop:=p.n<=304 ∨ (p.tb - 245)+W+c<=60
theorem Rw.rm {p:Pl} {W c:Nat} {D:List Nat} (h:Rw p W c) (hw:wt p D<=W):Rm p D c:=by
 unfold Rw at h;unfold Rm
 rcases h with h | h
 ·exact .inl h
 ·exact .inr (by omega)
theorem Spec.re {P:Program} {f:FuncId} {args:Array Value} {L L':List HP} {R:List HP->Value->List HP->Prop} (h:Spec P f args L R) (hk:∀ F,Wk (L'++F) (L++F)):Spec P f args L' R:=fun B F w hs=>h B F w (hk F B w hs)
theorem Rep.imapF {p:Pl} {V:Nat->aa} {F:FM} (h:Rep p V F) {j:Nat} (hj:j < p.ino):dig V p.im j=(F j).isSome:=by
 rw [h.inv.imap j hj]
 unfold ndOf
 cases F j<;>rfl
variable {s a c:Nat} {p:Pl} {F0 F:FM} {W:Nat} {op:Bool}
theorem nMake {i k:Nat} (ho:PlOk p) (hk:k=1 ∨ k=2) (hw:Rw p W 1) (hi:i < p.ino) (h0:F i=none) (hb:∀ j < i,F j≠none):Spec Tryz.prog 120 #[.pointer (some ⟨s,0,none⟩),nI k] [IN s a c p F0 F W true] fun G v M=>v=.tuple #[nI i,.int .i64 0]/\M=IN s a c p F0 (updM F i (some (k,[]))) (W+1) true :: G:=by
 refine Spec.opens (IN.opens s a c p F0 F W true) fun y hy=>(Tg (s:=s) (c:=c) (a:=a) (V0:=y.1) (V:=y.2.1) (D:=y.2.2) (k:=k) ho hk hy.dk (hw.rm hy.wt)).post ?_
 rintro G v M (⟨j,hj,hj0,hjb,rfl,rfl⟩ | ⟨hall,_,_⟩)
 ·rw [hy.r.imapF hj] at hj0
  have hji:j=i:=by
   rcases Nat.lt_trichotomy j i with h1 | h1 | h1
   ·have:=hb j h1
    cases hF:F j with
    | none=>exact absurd hF this
    | some f=>rw [hF] at hj0;cases hj0
   ·exact h1
   ·have:=hjb i h1
    rw [hy.r.imapF hi,h0] at this
    cases this
  subst hji
  have hd:=Tf ho hy.dk hj
  have hw1:=hy.wt
  exact ⟨_,⟨rfl,rfl⟩,Wk.shutR (M:=G) (IN.opens s a c p F0 (updM F j (some (k,[]))) (W+1) true) (y.1,_,mkD p y.2.2 j) ⟨hy.r0,hy.r.made ho hj (by rw [hy.r.imapF hj];exact hj0) hk,hd.1,by show wt p (mkD p y.2.2 j)<=W+1;omega⟩⟩
 ·have:=hall i hi
  rw [hy.r.imapF hi,h0] at this
  cases this
theorem Qu {i:Nat} {f:Nat×aa} (ho:PlOk p) (hi:F i=some f):Spec Tryz.prog 174 #[.pointer (some ⟨s,0,none⟩),nI i] [IN s a c p F0 F W op] fun G v M=>v=.tuple #[.agg #[nI f.1,nI f.2.length],.int .i64 0]/\M=IN s a c p F0 F W op :: G:=by
 refine Spec.opens (IN.opens s a c p F0 F W op) fun y hy=>(Te (s:=s) (c:=c) (a:=a) (V0:=y.1) (V:=y.2.1) (D:=y.2.2) (op:=op) (i:=i) ho (hy.r.lt hi) (hy.r.digI hi)).post ?_
 rintro G v M ⟨rfl,rfl⟩
 have hf:=hy.r.ok i f hi
 rw [hf.kd,hf.sz]
 exact ⟨_,⟨rfl,rfl⟩,Wk.shutR (M:=G) (IN.opens s a c p F0 F W op) y hy⟩
theorem Ib {i:Int} (ho:PlOk p) (hi:fileAt F i=none):Spec Tryz.prog 174 #[.pointer (some ⟨s,0,none⟩),.int .i64 i] [IN s a c p F0 F W op] fun G v M=>v=.tuple #[.agg #[nI 0,nI 0],.int .i64 4]/\M=IN s a c p F0 F W op :: G:=by
 refine Spec.opens (IN.opens s a c p F0 F W op) fun y hy=>(Mh (s:=s) (c:=c) (a:=a) (V0:=y.1) (V:=y.2.1) (D:=y.2.2) (op:=op) (i:=i) ho (hy.r.nope hi)).post ?_
 rintro G v M ⟨rfl,rfl⟩
 exact ⟨_,⟨rfl,rfl⟩,Wk.shutR (M:=G) (IN.opens s a c p F0 F W op) y hy⟩
theorem Tn {i at' k:Nat} {f:Nat×aa} (ho:PlOk p) (hi:F i=some f) (hat:at'<=9223372036854775807) (hk:k<=9223372036854775807):Spec Tryz.prog 188 #[.pointer (some ⟨s,0,none⟩),nI i,nI at',nI k] [IN s a c p F0 F W op] fun G v M=>∃ u,v=.tuple #[u,.int .i64 0]/\M=rowR 5 1 u ((f.2.drop at').take k).length (bvs ((f.2.drop at').take k)) :: IN s a c p F0 F W op :: G:=by
 refine Spec.opens (IN.opens s a c p F0 F W op) fun y hy=>(Tm (s:=s) (c:=c) (a:=a) (V0:=y.1) (V:=y.2.1) (D:=y.2.2) (op:=op) hy.r ho hi hat hk).post ?_
 rintro G v M ⟨u,rfl,rfl⟩
 exact ⟨_,⟨u,rfl,rfl⟩,fun B w hs=>Sat.front (.there .here) (Sat.shuts (M:=rowR _ _ _ _ _ :: G) (IN.opens s a c p F0 F W op) hy (Am.wk Am.auto B w hs))⟩
theorem Oq {i at' m cc:Nat} {f:Nat×aa} {R:HP} {A:Option Addr} {bs:aa} (ho:PlOk p) (hi:F i=some f) (hw:Rw p W (has (max f.2.length (at'+m)) - has f.2.length+(m+511) / 512+10)) (hR:bs=[] ∨ Reads R A (bvs bs)) (hm:bs.length=m) (hcc:m<=cc) (hcb:cc<=maxLen) (hat:at'<=f.2.length) (hbg:at'+m<=70656) (hfit:tot F p.ino+has (max f.2.length (at'+m))<=p.dc+has f.2.length) :
  Spec Tryz.prog 169 #[.pointer (some ⟨s,0,none⟩),nI i,nI at',.slice A m cc] [IN s a c p F0 F W true,R] fun G v M=>v=okV/\M=IN s a c p F0 (updM F i (some (f.1,wrB f.2 at' bs))) (W+(has (max f.2.length (at'+m)) - has f.2.length)+(m+511) / 512+5) true :: R :: G:=by
 refine Spec.opens (IN.opens s a c p F0 F W true) fun y hy=>((Qs (s:=s) (c:=c) (a:=a) (V0:=y.1) (V:=y.2.1) (D:=y.2.2) (cc:=cc) hy.r ho hi hy.dk (hw.rm hy.wt) hR hm hcc hcb hat hbg).re (fun G B w hs=>Sat.front (.there (.there (.there .here))) hs)).post ?_
 rintro G v M (⟨hfull,rfl,rfl⟩ | ⟨hle,V1,D1,hrep,⟨hdk,hwt⟩,rfl,rfl⟩)
 ·omega
 ·have hw1:=hy.wt
  exact ⟨_,⟨rfl,rfl⟩,Wk.trans (Am.wk Am.auto) (Wk.shutR (M:=R :: G) (IN.opens s a c p F0 (updM F i (some (f.1,wrB f.2 at' bs))) (W+(has (max f.2.length (at'+m)) - has f.2.length)+(m+511) / 512+5) true) (y.1,V1,D1) ⟨hy.r0,hrep,hdk,by show wt p D1<=_;omega⟩)⟩
theorem Qv (ho:PlOk p:=by assumption):Spec Tryz.prog 82 #[.pointer (some ⟨c,0,none⟩)] [IN s a c p F0 F W true] fun G v M=>v=okV/\M=IN s a c p F F 0 false :: G:=by
 refine Spec.opens (IN.opens s a c p F0 F W true) fun y hy=>((Qe (c:=c) (n:=p.n) (V0:=y.1) (V:=y.2.1) (D:=y.2.2)).last).post ?_
 rintro G v M ⟨rfl,rfl⟩
 exact ⟨_,⟨rfl,rfl⟩,Wk.trans (Am.wk Am.auto) (Wk.shutR (M:=G) (IN.opens s a c p F F 0 false) (cm0 y.2.1,y.2.1,[]) ⟨hy.r.cm ho,hy.r,Dk.nil p,Nat.zero_le _⟩)⟩
theorem To :Spec Tryz.prog 76 #[.pointer (some ⟨c,0,none⟩)] [IN s a c p F0 F W false] fun G v M=>v=okV/\M=IN s a c p F0 F W true :: G:=by
 refine Spec.opens (IN.opens s a c p F0 F W false) fun y hy=>((Ok (c:=c) (n:=p.n) (V0:=y.1) (V:=y.2.1) (D:=y.2.2)).last).post ?_
 rintro G v M ⟨rfl,rfl⟩
 exact ⟨_,⟨rfl,rfl⟩,Wk.trans (Am.wk Am.auto) (Wk.shutR (M:=G) (IN.opens s a c p F0 F W true) y hy)⟩
def qw :FM:=fun i=>if i=0 then some (2,[]) else none
def n8 (p:Pl):Nat->aa:=svV p (mh p) 0 ⟨2,0,List.replicate 11 0⟩
theorem vk {p:Pl}:Len5 (mh p):=fun k=>by
 unfold mh fmtA
 rw [lk]
 split
 ·exact ez _ _ _
 ·rw [lk]
  split
  ·exact ez _ _ _
  ·exact bg
theorem Ic {p:Pl} (h:PlIs p):Rep p (n8 p) qw:=by
 have ho:=h.ok
 have hlo:=ho.lo
 have htd:=ho.tbda
 have hi1:=ho.i1
 have hi2:=ho.i2
 have htab:=ho.tab
 have hfx:Fits ⟨2,0,List.replicate 11 0⟩:=Mj (by decide)
 have hld:ldN p (n8 p) 0=⟨2,0,List.replicate 11 0⟩:=xe vk hfx
 have hnd:∀ i x S,ndOf p (n8 p) qw i=some (x,S)->i=0/\x=⟨2,0,List.replicate 11 0⟩/\∀ k,S k=false:=by
  intro i x S hi
  unfold ndOf qw at hi
  by_cases h0:i=0
  ·subst h0
   rw [if_pos rfl] at hi
   have hi':some (ldN p (n8 p) 0,stdS (dat ([]:aa).length))=some (x,S):=hi
   injection hi' with hi'
   injection hi' with e1 e2
   exact ⟨rfl,by rw [<- e1,hld],fun k=>by rw [<- e2];exact zg k⟩
  ·rw [if_neg h0] at hi;cases hi
 have hV:∀ v,v < p.tb->n8 p v=mh p v:=fun v hv=>em _ _ (by omega)
 have hbm:∀ k,k < p.dc->dig (n8 p) p.bm k=false:=fun k hk=>by
  have:=ho.mapAt hk
  rw [<- L9 h hk]
  unfold dig
  rw [hV _ (by omega)]
 refine ⟨⟨Bh vk _ _,?_,?_,?_,?_,?_,?_,?_⟩,?_,?_,rfl⟩
 ·intro i x S hi;obtain ⟨_,h2,_⟩:=hnd i x S hi;rw [h2];exact hfx
 ·intro i x S hi;obtain ⟨_,_,h3⟩:=hnd i x S hi;exact ⟨fun k hk=>(by rw [h3 k] at hk;cases hk),fun k hk=>(by rw [h3 k] at hk;cases hk)⟩
 ·intro i x S hi;obtain ⟨h1,_,_⟩:=hnd i x S hi;omega
 ·intro i x S k hi hk;obtain ⟨_,_,h3⟩:=hnd i x S hi;rw [h3 k] at hk;cases hk
 ·intro i x S k j y T l hi hk;obtain ⟨_,_,h3⟩:=hnd i x S hi;rw [h3 k] at hk;cases hk
 ·intro b hb
  rw [hbm b hb]
  refine ⟨fun hh=>(by cases hh),?_⟩
  rintro ⟨i,x,S,k,hi,hk,_⟩
  obtain ⟨_,_,h3⟩:=hnd i x S hi
  rw [h3 k] at hk;cases hk
 ·intro i hi
  have h1:dig (n8 p) p.im i=decide (i=0):=by
   rw [<- Ma h hi]
   unfold dig
   rw [hV _ (by omega)]
  rw [h1]
  unfold ndOf qw
  by_cases h0:i=0
  ·rw [if_pos h0,decide_eq_true h0];rfl
  ·rw [if_neg h0,decide_eq_false h0];rfl
 ·intro i f hi
  unfold qw at hi
  by_cases h0:i=0
  ·subst h0
   rw [if_pos rfl] at hi
   cases hi
   rw [hld]
   exact ⟨rfl,.inr rfl,rfl,Nat.zero_le _,fun q hq=>by cases hq⟩
  ·rw [if_neg h0] at hi;cases hi
 ·have h1:∀ n,tot qw n=0:=by
   intro n
   induction n with
   | zero=>rfl
   | succ n ih =>
    unfold tot
    rw [ih]
    unfold qw
    by_cases h0:n=0
    ·rw [if_pos h0];rfl
    ·rw [if_neg h0];rfl
  rw [h1]
  unfold cnt
  rw [List.filter_eq_nil_iff.2 (fun k hk=>by rw [hbm k (List.mem_range.1 hk)];decide)]
  rfl
theorem C7 (n:Nat):tot qw n=0:=by
 induction n with
 | zero=>rfl
 | succ n ih =>
  unfold tot
  rw [ih]
  unfold qw
  by_cases h0:n=0
  ·rw [if_pos h0];rfl
  ·rw [if_neg h0];rfl
end Go.Proofs.YtmihjfcbofejoaaGreatDoor
end
section
namespace Go.Proofs.YtmihjfcbofejoaaGreatDoor
open Go
theorem un21 :Tryz.prog.underlying 21=some (.int .i32):=by kernel_rfl
def pl (xs:aa):Bool:=xs.any fun b=>b==47 || b==0
theorem C8 {xs:aa} (h:∀ (j:Nat) (hj:j < xs.length),xs[j]≠47/\xs[j]≠0):pl xs=false:=by
 unfold pl
 rw [List.any_eq_false]
 intro b hb
 obtain ⟨j,hj,rfl⟩:=List.mem_iff_getElem.1 hb
 obtain ⟨h1,h2⟩:=h j hj
 simp [h1,h2]
theorem zh {xs:aa} {j:Nat} (hj:j < xs.length) (h:xs[j]=47 ∨ xs[j]=0):pl xs=true:=by
 unfold pl
 rw [List.any_eq_true]
 exact ⟨xs[j],List.getElem_mem hj,by rcases h with h | h<;>simp [h]⟩
theorem Mo (xs:aa) (c:Int) (w:World):(callFunc 315 #[sv xs,.int .u8 c]).run Tryz.prog w=.ok (.value (.int .i64 (Lib.indexByte xs c.toNat.toUInt8))) w:=by
 rw [run_callFunc_extern Tryz.func315 (by kernel_rfl) (by kernel_rfl) (by kernel_rfl) (e:=Extern.BytealgIndexByte.indexByte) (by kernel_rfl),ex,Lib.run_indexByteString]
 rfl
theorem Qw :∀ c:Nat,c < 128->decide ((0:Int)<=Lib.indexByte [47,0] (c:Int).toNat.toUInt8)=decide (c=47 ∨ c=0):=by decide +kernel
theorem Ie :rune [47,0] 0=(47,1):=nr (by decide) (by decide)
theorem If :rune [47,0] 1=(0,1):=nr (by decide) (by decide)
def Ig (c:Nat):Bool:=decide (c < 55296) || (decide (57343 < c) && decide (c<=1114111))
theorem C9 {xs:aa} {c:Int}:Spec Tryz.prog 308 #[sv xs,.int .u8 c] [] fun F v M=>v=.int .i64 (Lib.indexByte xs c.toNat.toUInt8)/\M=F:=by
 refine Spec.intro Tryz.func308 rfl rfl fun B F=>?_
 simp only [Tryz.ntmps308,List.cons_append,List.nil_append,env0,Nat.reduceAdd]
 refine .sr (.assign (.x (.move (.move ?_))))
 refine .callX (hc:=Mo xs c) (h:=?_)
 refine .assign (.z (.ret (?_)))
 exact .ret1 (h1:=.tmp (t:=4) rfl) ⟨_,⟨rfl,rfl⟩,Am.auto⟩
theorem Ih {xs:aa} {c:Int}:Spec Tryz.prog 289 #[sv xs,.int .u8 c] [] fun F v M=>v=.int .i64 (Lib.indexByte xs c.toNat.toUInt8)/\M=F:=by
 refine Spec.intro Tryz.func289 rfl rfl fun B F=>?_
 simp only [Tryz.ntmps289,List.cons_append,List.nil_append,env0,Nat.reduceAdd]
 refine .sr (.assign (.x (.move (.move ?_))))
 refine .call (hc:=Tryz.call308) (sp:=C9) (h:=?_)
 rintro _ _ ⟨rfl,rfl⟩
 refine .assign (.z (.ret (?_)))
 exact .ret1 (h1:=.tmp (t:=4) rfl) ⟨_,⟨rfl,rfl⟩,Am.auto⟩
theorem Ii {c:Nat}:Spec Tryz.prog 290 #[.int .i32 (c:Int)] [] fun F v M=>v=.bool (Ig c)/\M=F:=by
 refine Spec.intro Tryz.func290 rfl rfl fun B F=>?_
 simp only [Tryz.ntmps290,List.cons_append,List.nil_append,env0,Nat.reduceAdd]
 unfold Ig
 rcases (show c < 55296 ∨ (¬ c < 55296/\57343 < c/\c<=1114111) ∨ (¬ c < 55296/\¬ 57343 < c) ∨ (¬ c < 55296/\57343 < c/\¬ c<=1114111) from by omega) with hc | hc | hc | hc
 ·refine .sr (.assign (.z (.seq (.block (.sr (.move ?_))))))
  refine .leq ?_
  refine .move ?_
  refine .cast (d:=6) (u:=.bool true) rfl (cB9 (by first|simp;done|simp;omega|omega)) ?_
  refine .gT (.move (.gT ?_))
  refine .lss ?_
  refine .pickT (.assign (.z ?_))
  refine .condT rfl (cB9 (by first|simp;done|simp;omega|omega)) ?_
  refine .sr (.assign (.z ?_))
  refine .ret (.blockRet (.thenRet (?_)))
  exact .ret1 (h1:=.tmp (t:=2) rfl) ⟨_,⟨by simp [hc],rfl⟩,Am.auto⟩
 ·refine .sr (.assign (.z (.seq (.block (.sr (.move ?_))))))
  refine .leq ?_
  refine .move ?_
  refine .cast (d:=6) (u:=.bool true) rfl (cB9 (by first|simp;done|simp;omega|omega)) ?_
  refine .gT (.move (.gT ?_))
  refine .lss ?_
  refine .pickT (.assign (.z ?_))
  refine .condF rfl (cB9 (by first|simp;done|simp;omega|omega)) ?_
  refine .sr (.move ?_)
  refine .lss ?_
  refine .move ?_
  refine .cast (d:=13) (u:=.bool true) rfl (cB9 (by first|simp;done|simp;omega|omega)) ?_
  refine .gT (.move (.gT ?_))
  refine .leq ?_
  refine .pickT (.assign (.z ?_))
  refine .condT rfl (cB9 (by first|simp;done|simp;omega|omega)) ?_
  refine .sr (.assign (.z ?_))
  refine .ret (.blockRet (.thenRet (?_)))
  exact .ret1 (h1:=.tmp (t:=2) rfl) ⟨_,⟨by simp [hc],rfl⟩,Am.auto⟩
 ·refine .sr (.assign (.z (.seq (.block (.sr (.move ?_))))))
  refine .leq ?_
  refine .move ?_
  refine .cast (d:=6) (u:=.bool true) rfl (cB9 (by first|simp;done|simp;omega|omega)) ?_
  refine .gT (.move (.gT ?_))
  refine .lss ?_
  refine .pickT (.assign (.z ?_))
  refine .condF rfl (cB9 (by first|simp;done|simp;omega|omega)) ?_
  refine .sr (.move ?_)
  refine .lss ?_
  refine .move ?_
  refine .cast (d:=13) (u:=.bool false) rfl (cB9 (by first|simp;done|simp;omega|omega)) ?_
  refine .gF (.gF (.pickF (.assign (.z ?_))))
  refine .condF rfl rfl ?_
  refine .skip (.blockNormal (.next (.sr (.assign (.z ?_)))))
  refine .ret (?_)
  exact .ret1 (h1:=.tmp (t:=2) rfl) ⟨_,⟨by simp [hc],rfl⟩,Am.auto⟩
 ·refine .sr (.assign (.z (.seq (.block (.sr (.move ?_))))))
  refine .leq ?_
  refine .move ?_
  refine .cast (d:=6) (u:=.bool true) rfl (cB9 (by first|simp;done|simp;omega|omega)) ?_
  refine .gT (.move (.gT ?_))
  refine .lss ?_
  refine .pickT (.assign (.z ?_))
  refine .condF rfl (cB9 (by first|simp;done|simp;omega|omega)) ?_
  refine .sr (.move ?_)
  refine .lss ?_
  refine .move ?_
  refine .cast (d:=13) (u:=.bool true) rfl (cB9 (by first|simp;done|simp;omega|omega)) ?_
  refine .gT (.move (.gT ?_))
  refine .leq ?_
  refine .pickT (.assign (.z ?_))
  refine .condF rfl (cB9 (by first|simp;done|simp;omega|omega)) ?_
  refine .skip (.blockNormal (.next (.sr (.assign (.z ?_)))))
  refine .ret (?_)
  exact .ret1 (h1:=.tmp (t:=2) rfl) ⟨_,⟨by simp [hc],rfl⟩,Am.auto⟩
theorem Qx {c:Nat}:Spec Tryz.prog 252 #[sv [47,0],.int .i32 (c:Int)] [] fun F v M=>∃ r:Int,v=.int .i64 r/\decide (0<=r)=decide (c=47 ∨ c=0)/\M=F:=by
 refine Spec.intro Tryz.func252 rfl rfl fun B F=>?_
 simp only [Tryz.ntmps252,List.cons_append,List.nil_append,env0,Nat.reduceAdd]
 rcases (show c < 128 ∨ c=65533 ∨ (¬ c < 128/\c≠65533) from by omega) with hc | hc | hc
 ·refine .sr (.assign (.z (.block (.sr (.move ?_)))))
  refine .leq ?_
  refine .move ?_
  refine .cast (d:=163) (u:=.bool true) rfl (cB9 (by first|simp;done|simp;omega|omega)) ?_
  refine .gT (.move (.gT ?_))
  refine .lss ?_
  refine .pickT (.assign (.z ?_))
  refine .condT rfl (cB9 (by first|simp;done|simp;omega|omega)) ?_
  refine .sr (.move (.move ?_))
  refine .cvt ?_ un21 un5
  refine .cast (d:=169) (u:=.int .u8 (c:Int)) rfl (cI9 (IntWalk.u8_in _ (by omega))) ?_
  refine .call (hc:=Tryz.call289) (sp:=Ih (xs:=[47,0]) (c:=(c:Int))) (h:=?_)
  rintro _ _ ⟨rfl,rfl⟩
  refine .assign (.z ?_)
  refine .ret (.blockRet (?_))
  exact .ret1 (h1:=.tmp (t:=4) rfl) ⟨_,⟨_,rfl,Qw c hc,rfl⟩,Am.auto⟩
 ·subst hc
  refine .sr (.assign (.z (.block (.sr (.move ?_)))))
  refine .leq ?_
  refine .move ?_
  refine .cast (d:=163) (u:=.bool true) rfl (cB9 (by first|simp;done|simp;omega|omega)) ?_
  refine .gT (.move (.gT ?_))
  refine .lss ?_
  refine .pickT (.assign (.z ?_))
  refine .condF rfl (cB9 (by first|simp;done|simp;omega|omega)) ?_
  refine .sr (.move ?_)
  refine .eqi ?_
  refine .assign (.z ?_)
  refine .condT rfl rfl ?_
  refine .seq (.sr (.move ?_))
  refine .rangeT [47,0] st9 (fun it=>?_)
  refine .z (.block ?_)
  refine .loopN 3 (RC.succ ?_)
  refine .sr ?_
  refine .nextT (k:=0) [47,0] (fun hk=>absurd (by decide) hk) (fun _=>?_)
  rw [Ie]
  refine .extract (.z (.seq ?_))
  refine .condT rfl rfl ?_
  refine .skip (.next (.block (.sr ?_)))
  refine .extract (.extract (.assign (.assign (.x (.move ?_)))))
  refine .eqi (.z ?_)
  refine .condF rfl rfl ?_
  refine .skip (.blockNormal ?_)
  refine .again (RC.succ ?_)
  refine .sr ?_
  refine .nextT (k:=1) [47,0] (fun hk=>absurd (by decide) hk) (fun _=>?_)
  rw [If]
  refine .extract (.z (.seq ?_))
  refine .condT rfl rfl ?_
  refine .skip (.next (.block (.sr ?_)))
  refine .extract (.extract (.assign (.assign (.x (.move ?_)))))
  refine .eqi (.z ?_)
  refine .condF rfl rfl ?_
  refine .skip (.blockNormal ?_)
  refine .again (RC.succ ?_)
  refine .sr ?_
  refine .nextT (k:=2) [47,0] (fun _=>?_) (fun hk=>absurd hk (by decide))
  refine .extract (.z (.seq ?_))
  refine .condF rfl rfl ?_
  refine .exit (.thenExit (.thenExit (.blockExit (?_))))
  refine .next (.sr (.assign (.z ?_)))
  refine .ret (.blockRet (?_))
  exact .ret1 (h1:=.tmp (t:=4) rfl) ⟨_,⟨_,rfl,by decide,rfl⟩,Am.auto⟩
 ·obtain ⟨l,hl,hl2,hl4,hlast⟩:=Az (c:=c) (by omega)
  refine .sr (.assign (.z (.block (.sr (.move ?_)))))
  refine .leq ?_
  refine .move ?_
  refine .cast (d:=163) (u:=.bool true) rfl (cB9 (by first|simp;done|simp;omega|omega)) ?_
  refine .gT (.move (.gT ?_))
  refine .lss ?_
  refine .pickT (.assign (.z ?_))
  refine .condF rfl (cB9 (by first|simp;done|simp;omega|omega)) ?_
  refine .sr (.move ?_)
  refine .eqi ?_
  refine .assign (.z ?_)
  refine .condF rfl (cB9 (by first|simp;done|simp;omega|omega)) ?_
  refine .sr (.move ?_)
  refine .call (hc:=Tryz.call290) (sp:=Ii (c:=c)) (h:=?_)
  rintro _ _ ⟨rfl,rfl⟩
  refine .not ?_
  refine .assign (.z ?_)
  cases hv:Ig c
  ·refine .condT rfl rfl ?_
   refine .sr (.assign (.z ?_))
   refine .ret (.blockRet (?_))
   exact .ret1 (h1:=.tmp (t:=4) rfl) ⟨_,⟨_,rfl,by rw [decide_eq_false (by decide),decide_eq_false (by omega)],rfl⟩,Am.auto⟩
  ·refine .condF rfl rfl ?_
   refine .scope (.sr (.move ?_))
   refine .pure ?_ rfl (Qt.cvtRT un21 st9)
   rw [hl]
   refine .assign (.x (.move ?_))
   refine .lenT _ ?_ st9
   refine .sub ?_
   refine .assign (.x (.move (.assign (.x (.assign (.z (.seq (.block ?_))))))))
   rcases (show l.length=2 ∨ 3<=l.length from by omega) with hl3 | hl3
   ·obtain ⟨x,hx⟩:∃ x,l[1]?=some x:=⟨_,List.getElem?_eq_getElem (by omega)⟩
    have hx8:128<=x.toNat:=hlast x (by rw [List.getLast?_eq_getElem?,hl3];exact hx)
    rw [hl3]
    refine .loopN 2 (RC.succ ?_)
    refine .seq (.sr (.move (.move ?_)))
    refine .lenT _ ?_ st9
    refine .lss (.z ?_)
    refine .condT rfl rfl ?_
    refine .skip (.next (.block (.scope (.seq (.seq ?_)))))
    refine .dr ([]) [] 7 mixed .autoS ?_
    refine .tk 0 rfl .move ?_
    refine .tk 1 rfl .move ?_
    refine .tk 2 rfl (Qt.ixT (p:=1) (v:=0) [47,0] st9 rfl) ?_
    refine .tk 3 rfl .move ?_
    refine .tk 4 rfl .move ?_
    refine .tk 5 rfl (Qt.ixT (p:=1) (v:=x) l st9 hx) ?_
    refine .tk 6 rfl ((Qt.nei).eq (v':=.bool true) (cB9 (show (!decide ((0:Int)=(x.toNat:Int)))=true from by rw [decide_eq_false (by omega)];rfl))) ?_
    refine .fin ?_
    refine .next ?_
    refine .condT rfl rfl ?_
    refine .seq ?_
    refine .dr ([]) [] 9 mixed .autoS ?_
    refine .tk 0 rfl .move ?_
    refine .tk 1 rfl .move ?_
    refine .tk 2 rfl .add ?_
    refine .tk 3 rfl (Qt.subT (p:=1+1) [47,0] st9 (hp:=⟨by decide,by decide⟩)) ?_
    refine .tk 4 rfl .move ?_
    refine .tk 5 rfl .move ?_
    refine .tk 6 rfl (Qt.ixT (p:=1) (v:=x) l st9 hx) ?_
    refine .on 7 rfl fun hnp=>?_
    refine .call (hc:=Tryz.call289) (sp:=Ih (xs:=[]) (c:=(x.toNat:Int))) (h:=?_)
    rintro _ _ ⟨rfl,rfl⟩
    refine .nil (.wa hnp ?_)
    refine .tk 8 rfl .assign ?_
    refine .fin ?_
    refine .next (.seq (.sr (.move ?_)))
    refine .lss (.z ?_)
    refine .condT rfl rfl ?_
    refine .sr (.assign (.z ?_))
    refine .ret (.thenRet (.thenRet (.scopeRet (.blockRet (.thenRet (.blockRet (.thenRet (.scopeRet (.blockRet (?_))))))))))
    exact .ret1 (h1:=.tmp (t:=4) rfl) ⟨_,⟨_,rfl,by rw [decide_eq_false (by decide),decide_eq_false (by omega)],rfl⟩,Am.auto⟩
   ·refine .loopN 1 (RC.succ ?_)
    refine .seq (.sr (.move (.move ?_)))
    refine .lenT _ ?_ st9
    refine .lss (.z ?_)
    refine .condF rfl (cB9 (by first|simp;done|simp;omega|omega)) ?_
    refine .exit (.thenExit (.thenExit (.blockExit (?_))))
    refine .next (.seq (.sr (.assign (.z ?_))))
    refine .ret (.thenRet (.scopeRet (.blockRet (?_))))
    exact .ret1 (h1:=.tmp (t:=4) rfl) ⟨_,⟨_,rfl,by rw [decide_eq_false (by decide),decide_eq_false (by omega)],rfl⟩,Am.auto⟩
theorem Da :c5 Tryz.prog 328 256=true:=by kernel_rfl
theorem z328 :ba Tryz.prog 328=some (Array.replicate 256 (.bool false)):=by kernel_rfl
theorem Qz :mc Tryz.prog 328 4 256 1=true:=by kernel_rfl
def sepA :List Value:=((List.replicate 256 (Value.bool false)).set 47 (.bool true)).set 0 (.bool true)
theorem g9 :sepA.length=256:=by unfold sepA;rw [List.length_set,List.length_set,List.length_replicate]
theorem tj :∀ v∈sepA,Value.single v=true:=by
 intro v hv
 unfold sepA at hv
 rcases List.mem_or_eq_of_mem_set hv with hv | rfl
 ·rcases List.mem_or_eq_of_mem_set hv with hv | rfl
  ·rw [List.eq_of_mem_replicate hv];rfl
  ·rfl
 ·rfl
theorem Db :Array.replicate 256 (Value.bool false)=(List.replicate 256 (Value.bool false)).toArray:=(List.toArray_replicate ..).symm
theorem Mp (x:UInt8):sepA[x.toNat]?=some (.bool (x==47 || x==0)):=by
 have hx:x.toNat < 256:=x.toNat_lt
 unfold sepA
 by_cases h0:x=0
 ·subst h0
  exact List.getElem?_set_self (by rw [List.length_set,List.length_replicate];decide)
 ·have h0':0≠x.toNat:=fun h=>h0 (UInt8.toNat_inj.1 h.symm)
  rw [List.getElem?_set_ne h0']
  by_cases h47:x=47
  ·subst h47
   exact List.getElem?_set_self (by rw [List.length_replicate];decide)
  ·have h47':47≠x.toNat:=fun h=>h47 (UInt8.toNat_inj.1 h.symm)
   rw [List.getElem?_set_ne h47',List.getElem?_replicate,if_pos hx]
   simp [h0,h47]
def am (xs:aa):Bool:=!decide (xs=[]) && (decide (xs.length<=50) && (!pl xs && (!decide (xs=[46]) && !decide (xs=[46,46]))))
theorem mkSet :Spec Tryz.prog 254 #[sv [47,0]] [] fun F v M=>v=.tuple #[.agg sepA.toArray,.bool true]/\M=F:=by
 refine Spec.intro Tryz.func254 rfl rfl fun B F=>?_
 simp only [Tryz.ntmps254,List.cons_append,List.nil_append,env0,Nat.reduceAdd]
 refine .sr ?_
 refine .allocL (us:=List.replicate 256 (Value.bool false)) z328 Db fun b2=>?_
 refine .assign (.z (.seq (.sr (.assign (.z (.block ?_))))))
 refine .loopN 3 (RC.succ ?_)
 refine .seq (.sr (.move (.move ?_)))
 refine .lenT _ ?_ st9
 refine .lss (.z ?_)
 refine .condT rfl rfl ?_
 refine .skip (.next (.seq (.block (.sr (.move (.move ?_))))))
 refine .ixT (p:=0) (v:=47) [47,0] ?_ st9 rfl
 refine .cast (d:=14) (u:=.int .u8 47) rfl rfl ?_
 refine .assign (.z (.seq (.sr (.move ?_))))
 refine .geq (.z ?_)
 refine .condF rfl rfl ?_
 refine .skip (.next (.region (.move ?_)))
 refine .idxA ?_ Qz
 refine .stL (xs:=(List.replicate 256 (Value.bool false))) (i:=47) ?_ sc4 (by first | (rw [List.length_set,List.length_replicate];decide) | (rw [List.length_replicate];decide))
 refine .nil (.blockNormal (.next (.region (.move ?_))))
 refine .add ?_
 refine .assign (.nil ?_)
 refine .again (RC.succ ?_)
 refine .seq (.sr (.move (.move ?_)))
 refine .lenT _ ?_ st9
 refine .lss (.z ?_)
 refine .condT rfl rfl ?_
 refine .skip (.next (.seq (.block (.sr (.move (.move ?_))))))
 refine .ixT (p:=1) (v:=0) [47,0] ?_ st9 rfl
 refine .cast (d:=14) (u:=.int .u8 0) rfl rfl ?_
 refine .assign (.z (.seq (.sr (.move ?_))))
 refine .geq (.z ?_)
 refine .condF rfl rfl ?_
 refine .skip (.next (.region (.move ?_)))
 refine .idxA ?_ Qz
 refine .stL (xs:=((List.replicate 256 (Value.bool false)).set 47 (.bool true))) (i:=0) ?_ sc4 (by first | (rw [List.length_set,List.length_replicate];decide) | (rw [List.length_replicate];decide))
 refine .nil (.blockNormal (.next (.region (.move ?_))))
 refine .add ?_
 refine .assign (.nil ?_)
 refine .again (RC.succ ?_)
 refine .seq (.sr (.move (.move ?_)))
 refine .lenT _ ?_ st9
 refine .lss (.z ?_)
 refine .condF rfl rfl ?_
 refine .exit (.thenExit (.thenExit (.blockExit (?_))))
 refine .next (.sr ?_)
 refine .ldW (xs:=sepA) ?_ Da g9
 refine .stLA (xs:=sepA) (us:=sepA) ?_ Da g9 g9 tj
 refine .assign (.z (.ret (?_)))
 exact .ret2 (h1:=RV.aggL rfl Da (by repeat (first | exact .here | apply Rem.there | apply Repl.there | apply Mem.there)) g9) (h2:=.tmp rfl) ⟨_,⟨rfl,rfl⟩,Am.auto⟩
theorem Tp {b:Nat} {x:UInt8}:Spec Tryz.prog 255 #[.pointer (some ⟨b,0,none⟩),.int .u8 (x.toNat:Int)] [row b 328 sepA] fun F v M=>v=.bool (x==47 || x==0)/\M=row b 328 sepA :: F:=by
 refine Spec.intro Tryz.func255 rfl rfl fun B F=>?_
 simp only [Tryz.ntmps255,List.cons_append,List.nil_append,env0,Nat.reduceAdd]
 have hx:x.toNat < 256:=x.toNat_lt
 refine .sr (.assign (.x (.move (.move (.nilCheck ?_)))))
 refine .idxA ?_ Qz
 refine .ldL (xs:=sepA) (i:=0+((x.toNat:Nat):Int).toNat * 1) ?_ sc4 (by rw [Nat.zero_add,Nat.mul_one,Int.toNat_natCast];exact Mp x)
 refine .assign (.z (.ret (?_)))
 exact .ret1 (h1:=.tmp (t:=4) rfl) ⟨_,⟨rfl,rfl⟩,Am.auto⟩
theorem Tq {k:Int}:Spec Tryz.prog 253 #[.int .i64 k] [] fun F v M=>v=.bool (decide (8 < k))/\M=F:=by
 refine Spec.intro Tryz.func253 rfl rfl fun B F=>?_
 simp only [Tryz.ntmps253,List.cons_append,List.nil_append,env0,Nat.reduceAdd]
 refine .sr (.assign (.x (.move ?_)))
 refine .gtr ?_
 refine .assign (.z (.ret (?_)))
 exact .ret1 (h1:=.tmp (t:=2) rfl) ⟨_,⟨rfl,rfl⟩,Am.auto⟩
theorem Tr {xs:aa} (hl:xs.length<=65536):Spec Tryz.prog 230 #[sv xs,sv [47,0]] [] fun F v M=>∃ r:Int,v=.int .i64 r/\decide (0<=r)=pl xs/\M=F:=by
 refine Spec.intro Tryz.func230 rfl rfl fun B F=>?_
 simp only [Tryz.ntmps230,List.cons_append,List.nil_append,env0,Nat.reduceAdd]
 refine .sr (.assign (.z (.seq (.sr (.move ?_)))))
 refine .eqS _ _ ?_
 refine .z ?_
 refine .condF rfl rfl ?_
 refine .skip (.next (.seq (.sr (.move ?_))))
 refine .lenT _ ?_ st9
 refine .eqi (.z ?_)
 refine .condF rfl rfl ?_
 refine .skip (.next (.seq (.sr (.move ?_))))
 refine .lenT _ ?_ st9
 refine .call (hc:=Tryz.call253) (sp:=Tq (k:=(xs.length:Int))) (h:=?_)
 rintro _ _ ⟨rfl,hM⟩
 obtain rfl:=hM.symm
 refine .z ?_
 refine .cond rfl (fun h8=>?_) (fun h8=>?_)
 ·refine .sr (.move ?_)
  refine .call (hc:=Tryz.call254) (sp:=mkSet) (h:=?_)
  rintro _ _ ⟨rfl,hM2⟩
  obtain rfl:=hM2.symm
  refine .move ?_
  refine .extract (.extract ?_)
  refine .allocL (us:=List.replicate 256 (Value.bool false)) z328 Db fun b6=>?_
  refine .stLA (xs:=List.replicate 256 (Value.bool false)) (us:=sepA) ?_ Da g9 List.length_replicate tj
  refine .assign (.x (.move (.z ?_)))
  refine .condT rfl rfl ?_
  refine .seq (.sr (.assign (.z (.block ?_))))
  refine .loopA (σ:=Nat) (fun i=>[(0,sv xs),(6,.pointer (some ⟨b6,0,none⟩)),(8,.int .i64 (i:Int))]) (fun i=>row b6 328 sepA :: F) (fun i=>i<=xs.length/\∀ (j:Nat),j < i->∀ (hj:j < xs.length),xs[j]≠47/\xs[j]≠0) (fun i=>xs.length - i) 0 ⟨Nat.zero_le _,fun j hj=>by omega⟩ ?_
  rintro i hi
  refine .seq (.sr (.move (.move ?_)))
  refine .lenT _ ?_ st9
  refine .lss (.z ?_)
  refine .cond rfl (fun hb=>?_) (fun hb=>?_)
  ·have hlt:i < xs.length:=by have h:(i:Int) < (xs.length:Int):=of_decide_eq_true hb;omega
   have hx:xs[((i:Nat):Int).toNat]?=some xs[i]:=by rw [Int.toNat_natCast];exact List.getElem?_eq_getElem hlt
   refine .skip (.next (.seq (.block (.sr (.move (.move ?_))))))
   refine .ixT (p:=(i:Int)) (v:=xs[i]) xs ?_ st9 hx
   refine .call (hc:=Tryz.call255) (sp:=Tp (b:=b6) (x:=xs[i])) (h:=?_)
   rintro _ _ ⟨rfl,rfl⟩
   refine .z ?_
   refine .cond rfl (fun hq=>?_) (fun hq=>?_)
   ·refine .sr (.move (.assign (.z ?_)))
    refine .ret (.blockRet (.thenRet (.thenRet (.blockRet (.thenRet (.thenRet (?_)))))))
    exact .ret1 (h1:=.tmp (t:=4) rfl) ⟨_,⟨_,rfl,by rw [decide_eq_true (by omega),zh hlt (by simpa using hq)],rfl⟩,Am.auto⟩
   ·refine .skip (.blockNormal (.next (.region (.move ?_))))
    refine .add ?_
    refine .assign (.nil ?_)
    refine .cast (d:=8) (u:=.int .i64 ((i+1:Nat):Int)) rfl (cI9 (by omega)) ?_
    exact .back (i+1) ⟨by omega,fun j hj hl=>by by_cases hji:j=i;(subst hji;simpa using hq);exact hi.2 j (by omega) hl⟩ (by omega)
  ·have hge:¬ i < xs.length:=by have h:¬ (i:Int) < (xs.length:Int):=of_decide_eq_false hb;omega
   refine .exit (.thenExit (.thenExit (.blockExit (?_))))
   refine .next (.sr (.assign (.z ?_)))
   refine .ret (.thenRet (?_))
   exact .ret1 (h1:=.tmp (t:=4) rfl) ⟨_,⟨_,rfl,by rw [decide_eq_false (by decide),C8 (fun j hj=>hi.2 j (by omega) hj)],rfl⟩,Am.auto⟩
 ·refine .skip (.next (.seq (.sr (.move ?_))))
  refine .rangeT xs st9 (fun it=>?_)
  refine .z (.block ?_)
  refine .loopA (σ:=Nat) (fun k=>[(0,sv xs),(1,sv [47,0]),(45,.pointer (some ⟨it,0,none⟩))]) (fun k=>strIt it xs k :: F) (fun k=>∀ (j:Nat),j < k->∀ (hj:j < xs.length),xs[j]≠47/\xs[j]≠0) (fun k=>xs.length - k) 0 (fun j hj=>by omega) ?_
  rintro k hi
  refine .sr ?_
  refine .nextT (k:=k) xs (fun hk=>?_) (fun hk=>?_)
  ·refine .extract (.z (.seq ?_))
   refine .condF rfl rfl ?_
   refine .exit (.thenExit (.thenExit (.blockExit (?_))))
   refine .next (.sr (.assign (.z (.ret (?_)))))
   exact .ret1 (h1:=.tmp (t:=4) rfl) ⟨_,⟨_,rfl,by rw [decide_eq_false (by decide),C8 (fun j hj=>hi j (by omega) hj)],rfl⟩,Am.auto⟩
  ·have hpos:=Lg hk
   have hle:=P3 xs k
   obtain ⟨c,hc⟩:∃ c,(rune xs k).1=c:=⟨_,rfl⟩
   obtain ⟨d,hd⟩:∃ d,(rune xs k).2=d:=⟨_,rfl⟩
   rw [hc,hd]
   rw [hd] at hpos
   have hyes:c=47 ∨ c=0->pl xs=true:=by
    intro h
    by_cases hb:xs[k].toNat < 128
    ·rw [nr hk hb] at hc
     refine zh hk ?_
     have hc:xs[k].toNat=c:=hc
     rcases h with h | h
     ·exact .inl (UInt8.toNat_inj.1 (by rw [hc,h];rfl))
     ·exact .inr (UInt8.toNat_inj.1 (by rw [hc,h];rfl))
    ·have:=(sw hk (by omega)).1
     omega
   have hno:¬ (c=47 ∨ c=0)->∀ (j:Nat),j < k+d->∀ (hj:j < xs.length),xs[j]≠47/\xs[j]≠0:=by
    intro h j hj hjl
    by_cases hjk:j < k
    ·exact hi j hjk hjl
    by_cases hb:xs[k].toNat < 128
    ·rw [nr hk hb] at hc hd
     have hc:xs[k].toNat=c:=hc
     have hd:1=d:=hd
     obtain rfl:j=k:=by omega
     refine ⟨fun h2=>h (.inl ?_),fun h2=>h (.inr ?_)⟩
     ·rw [<- hc,h2];rfl
     ·rw [<- hc,h2];rfl
    ·have h3:=(sw hk (by omega)).2.2 j (by omega) (by rw [hd];exact hj) hjl
     refine ⟨fun h2=>?_,fun h2=>?_⟩
     ·rw [h2] at h3;exact absurd h3 (by decide)
     ·rw [h2] at h3;exact absurd h3 (by decide)
   refine .extract (.z (.seq ?_))
   refine .condT rfl rfl ?_
   refine .skip (.next (.block (.sr ?_)))
   refine .extract (.extract ?_)
   refine .assign (.assign (.x (.move (.move ?_))))
   refine .call (hc:=Tryz.call252) (sp:=Qx (c:=c)) (h:=?_)
   rintro _ _ ⟨r,rfl,hr,rfl⟩
   by_cases hq:c=47 ∨ c=0
   ·have hr0:0<=r:=of_decide_eq_true (by rw [hr];exact decide_eq_true hq)
    refine .geq (.z ?_)
    refine .condT rfl (cB9 (by first|simp;done|simp;omega|omega)) ?_
    refine .sr (.move (.assign (.z ?_)))
    refine .ret (.blockRet (.thenRet (.blockRet (.thenRet (?_)))))
    exact .ret1 (h1:=.tmp (t:=4) rfl) ⟨_,⟨_,rfl,by rw [decide_eq_true (by omega),hyes hq],rfl⟩,Am.auto⟩
   ·have hr0:¬ 0<=r:=of_decide_eq_false (by rw [hr];exact decide_eq_false hq)
    refine .geq (.z ?_)
    refine .condF rfl (cB9 (by first|simp;done|simp;omega|omega)) ?_
    refine .skip (.blockNormal ?_)
    exact .back (k+d) (hno hq) (by show xs.length - (k+d) < xs.length - k;omega)
theorem Ij {xs:aa} (hl:xs.length<=65536):Spec Tryz.prog 170 #[sv xs,sv [47,0]] [] fun F v M=>v=.bool (pl xs)/\M=F:=by
 refine Spec.intro Tryz.func170 rfl rfl fun B F=>?_
 simp only [Tryz.ntmps170,List.cons_append,List.nil_append,env0,Nat.reduceAdd]
 refine .sr (.assign (.x (.move (.move ?_))))
 refine .call (hc:=Tryz.call230) (sp:=Tr hl) (h:=?_)
 rintro _ _ ⟨r,rfl,hr,rfl⟩
 refine .geq ?_
 refine .assign (.z (.ret (?_)))
 exact .ret1 (h1:=.tmp (t:=4) rfl) ⟨_,⟨cB9 hr,rfl⟩,Am.auto⟩
theorem Bm {xs:aa}:Spec Tryz.prog 104 #[sv xs] [] fun F v M=>v=.bool (am xs)/\M=F:=by
 refine Spec.intro Tryz.func104 rfl rfl fun B F=>?_
 simp only [Tryz.ntmps104,List.cons_append,List.nil_append,env0,Nat.reduceAdd]
 unfold am
 by_cases h1:xs=[]
 ·refine .sr (.assign (.x (.move ?_)))
  refine .neS _ _ ?_
  refine .cast (d:=4) (u:=.bool false) rfl (cB9 (by simp [h1])) ?_
  refine .move (.gF (.gF (.gF (.pickF (.move ?_)))))
  refine .gF (.gF (.gF (.pickF (.move (.gF ?_)))))
  refine .gF (.pickF (.move (.gF (.gF (.pickF ?_)))))
  refine .assign (.z (.ret (?_)))
  exact .ret1 (h1:=.tmp (t:=2) rfl) ⟨_,⟨by simp [h1],rfl⟩,Am.auto⟩
 ·by_cases h2:xs.length<=50
  ·cases h3:pl xs
   ·by_cases h4:xs=[46]
    ·refine .sr (.assign (.x (.move ?_)))
     refine .neS _ _ ?_
     refine .cast (d:=4) (u:=.bool true) rfl (cB9 (by simp [h1])) ?_
     refine .move (.gT (.move (.gT ?_)))
     refine .lenT _ ?_ st9
     refine .gT ?_
     refine .leq ?_
     refine .pickT (.move ?_)
     refine .cast (d:=10) (u:=.bool true) rfl (cB9 (by first|simp;done|simp;omega|omega)) ?_
     refine .gT (.move (.gT ?_))
     refine .call (hc:=Tryz.call170) (sp:=Ij (xs:=xs) (by omega)) (h:=?_)
     rintro _ _ ⟨rfl,rfl⟩
     refine .gT ?_
     refine .not ?_
     refine .cast (d:=13) (u:=.bool true) rfl (cB9 (by rw [h3];rfl)) ?_
     refine .pickT (.move (.gT (.move (.gT ?_))))
     refine .neS _ _ ?_
     refine .cast (d:=17) (u:=.bool false) rfl (cB9 (by simp [h4])) ?_
     refine .pickT (.move (.gF (.gF (.pickF ?_))))
     refine .assign (.z (.ret (?_)))
     exact .ret1 (h1:=.tmp (t:=2) rfl) ⟨_,⟨by subst h4;rfl,rfl⟩,Am.auto⟩
    ·refine .sr (.assign (.x (.move ?_)))
     refine .neS _ _ ?_
     refine .cast (d:=4) (u:=.bool true) rfl (cB9 (by simp [h1])) ?_
     refine .move (.gT (.move (.gT ?_)))
     refine .lenT _ ?_ st9
     refine .gT ?_
     refine .leq ?_
     refine .pickT (.move ?_)
     refine .cast (d:=10) (u:=.bool true) rfl (cB9 (by first|simp;done|simp;omega|omega)) ?_
     refine .gT (.move (.gT ?_))
     refine .call (hc:=Tryz.call170) (sp:=Ij (xs:=xs) (by omega)) (h:=?_)
     rintro _ _ ⟨rfl,rfl⟩
     refine .gT ?_
     refine .not ?_
     refine .cast (d:=13) (u:=.bool true) rfl (cB9 (by rw [h3];rfl)) ?_
     refine .pickT (.move (.gT (.move (.gT ?_))))
     refine .neS _ _ ?_
     refine .cast (d:=17) (u:=.bool true) rfl (cB9 (by simp [h4])) ?_
     refine .pickT (.move (.gT (.move (.gT ?_))))
     refine .neS _ _ ?_
     refine .pickT (.assign (.z (.ret (?_))))
     exact .ret1 (h1:=.tmp (t:=2) rfl) ⟨_,⟨by simp [*],rfl⟩,Am.auto⟩
   ·refine .sr (.assign (.x (.move ?_)))
    refine .neS _ _ ?_
    refine .cast (d:=4) (u:=.bool true) rfl (cB9 (by simp [h1])) ?_
    refine .move (.gT (.move (.gT ?_)))
    refine .lenT _ ?_ st9
    refine .gT ?_
    refine .leq ?_
    refine .pickT (.move ?_)
    refine .cast (d:=10) (u:=.bool true) rfl (cB9 (by first|simp;done|simp;omega|omega)) ?_
    refine .gT (.move (.gT ?_))
    refine .call (hc:=Tryz.call170) (sp:=Ij (xs:=xs) (by omega)) (h:=?_)
    rintro _ _ ⟨rfl,rfl⟩
    refine .gT ?_
    refine .not ?_
    refine .cast (d:=13) (u:=.bool false) rfl (cB9 (by rw [h3];rfl)) ?_
    refine .pickT (.move (.gF (.gF (.pickF (.move ?_)))))
    refine .gF (.gF (.pickF (.assign (.z (.ret (?_))))))
    exact .ret1 (h1:=.tmp (t:=2) rfl) ⟨_,⟨by simp [*],rfl⟩,Am.auto⟩
  ·refine .sr (.assign (.x (.move ?_)))
   refine .neS _ _ ?_
   refine .cast (d:=4) (u:=.bool true) rfl (cB9 (by simp [h1])) ?_
   refine .move (.gT (.move (.gT ?_)))
   refine .lenT _ ?_ st9
   refine .gT ?_
   refine .leq ?_
   refine .pickT (.move ?_)
   refine .cast (d:=10) (u:=.bool false) rfl (cB9 (by first|simp;done|simp;omega|omega)) ?_
   refine .gF (.gF (.gF (.pickF (.move (.gF ?_)))))
   refine .gF (.pickF (.move (.gF (.gF (.pickF ?_)))))
   refine .assign (.z (.ret (?_)))
   exact .ret1 (h1:=.tmp (t:=2) rfl) ⟨_,⟨by simp [*],rfl⟩,Am.auto⟩
abbrev Slot :=Option (aa×Nat)
def keyB (nm:aa):aa:=(UInt8.ofNat nm.length :: (nm++List.replicate 50 0)).take 51
theorem e7 (nm:aa):(keyB nm).length=51:=by
 unfold keyB
 rw [List.length_take,List.length_cons,List.length_append,List.length_replicate]
 omega
abbrev K51 :={xs:aa // xs.length=51}
def keyK (nm:aa):K51:=⟨keyB nm,e7 nm⟩
theorem n9 (nm:aa):(keyB nm)[0]?=some (UInt8.ofNat nm.length):=by
 unfold keyB;rfl
theorem Mq {a b:aa} (ha:a.length<=50) (hb:b.length<=50) (h:keyB a=keyB b):a=b:=by
 have h0:UInt8.ofNat a.length=UInt8.ofNat b.length:=by
  have:=congrArg (fun l:aa=>l[0]?) h
  simp only [n9,Option.some.injEq] at this
  exact this
 have hl:a.length=b.length:=by
  have:=congrArg UInt8.toNat h0
  rw [UInt8.toNat_ofNat',UInt8.toNat_ofNat'] at this
  omega
 have h1:(a++List.replicate 50 0).take 50=(b++List.replicate 50 0).take 50:=by
  unfold keyB at h
  rw [List.take_succ_cons,List.take_succ_cons] at h
  exact (List.cons.inj h).2
 have h2:=congrArg (List.take a.length) h1
 rw [List.take_take,List.take_take,Nat.min_eq_left ha,List.take_append_of_le_length (Nat.le_refl _),List.take_length,hl,List.take_append_of_le_length (Nat.le_refl _),List.take_length] at h2
 exact h2
theorem Bn {a b:aa} (h:4<=a.length) (v:Nat):put4 (a++b) 0 v=put4 a 0 v++b:=by
 simp only [put4,put,putN,Bool.false_eq_true,if_false]
 rw [List.set_append_left _ _ (by omega),List.set_append_left _ _ (by rw [List.length_set];omega),List.set_append_left _ _ (by rw [List.length_set,List.length_set];omega),List.set_append_left _ _ (by rw [List.length_set,List.length_set,List.length_set];omega)]
def kx :Slot->aa
 | none=>List.replicate 64 0
 | some (nm,i)=>put4 (List.replicate 4 0) 0 i++(keyB nm++List.replicate 9 0)
theorem E3 {nm:aa} (i:Nat):(put4 (List.replicate 64 0) 0 i).take 4++keyB nm++(put4 (List.replicate 64 0) 0 i).drop 55=kx (some (nm,i)):=by
 have h1:(List.replicate 64 (0:UInt8))=List.replicate 4 0++List.replicate 60 0:=rfl
 have h4:(put4 (List.replicate 4 0) 0 i).length=4:=by rw [bu];rfl
 rw [h1,Bn (by rw [List.length_replicate];decide),List.take_left' h4,show 55=4+51 from rfl,<-List.drop_drop,List.drop_left' h4,List.append_assoc]
 rfl
theorem Ik {nm:aa} (h:nm.length<=50):(UInt8.ofNat nm.length :: List.replicate 50 0).take 1++nm.take (min nm.length 50)++(UInt8.ofNat nm.length :: List.replicate 50 0).drop (1+min nm.length 50)=keyB nm:=by
 rw [Nat.min_eq_left h,List.take_length,show 1+nm.length=nm.length+1 from by omega,List.drop_succ_cons,List.drop_replicate]
 have h1:(nm++List.replicate 50 (0:UInt8)).take 50=nm++List.replicate (50 - nm.length) 0:=by
  rw [List.take_append,List.take_of_length_le h,List.take_replicate,Nat.min_eq_left (by omega)]
 show _=UInt8.ofNat nm.length :: ((nm++List.replicate 50 0).take 50)
 rw [h1]
 rfl
theorem dh (s:Slot):(kx s).length=64:=by
 cases s with
 | none=>exact List.length_replicate
 | some x=>rw [kx,List.length_append,bu,List.length_append,e7,List.length_replicate,List.length_replicate]
def dirB (sl:List Slot):aa:=sl.flatMap kx
theorem Mr :dirB []=[]:=rfl
theorem ne (a b:List Slot):dirB (a++b)=dirB a++dirB b:=List.flatMap_append
theorem cg :∀ sl:List Slot,(dirB sl).length=64 * sl.length
 | []=>rfl
 | s :: sl=>by
  have:=cg sl
  unfold dirB at this ⊢
  rw [List.flatMap_cons,List.length_append,dh,this,List.length_cons];omega
theorem pm {sl:List Slot} {q:Nat} (h:q < sl.length):dirB sl=dirB (sl.take q)++(kx sl[q]++dirB (sl.drop (q+1))):=by
 have h1:dirB [sl[q]]=kx sl[q]:=by unfold dirB;rw [List.flatMap_cons,List.flatMap_nil,List.append_nil]
 rw [<- h1,<-ne,<-ne]
 congr 1
 rw [List.singleton_append,List.getElem_cons_drop,List.take_append_drop]
theorem Il {sl:List Slot} {q r k:Nat} (h:q < sl.length) (hk:r+k<=64):((dirB sl).drop (64 * q+r)).take k=((kx sl[q]).drop r).take k:=by
 have hl:(dirB (sl.take q)).length=64 * q:=by rw [cg,List.length_take];omega
 rw [pm h,<-hl,<-List.drop_drop,List.drop_left,List.drop_append_of_le_length (by rw [dh];omega),List.take_append_of_le_length (by rw [List.length_drop,dh];omega)]
def tl :Slot->aa
 | none=>List.replicate 51 0
 | some (nm,_)=>keyB nm
theorem Im (s:Slot):((kx s).drop 4).take 51=tl s:=by
 cases s with
 | none=>rfl
 | some x =>
  obtain ⟨nm,i⟩:=x
  have h4:(put4 (List.replicate 4 0) 0 i).length=4:=by rw [bu];rfl
  show ((put4 (List.replicate 4 0) 0 i++(keyB nm++List.replicate 9 0)).drop 4).take 51=keyB nm
  rw [List.drop_left' h4,List.take_left' (e7 nm)]
theorem Ms {sl:List Slot} {q:Nat} (h:q < sl.length):((dirB sl).drop (64 * q+4)).take 51=tl sl[q]:=by
 rw [Il h (by decide),Im]
theorem zi (s:Slot):(tl s).length=51:=by
 cases s with
 | none=>exact List.length_replicate
 | some x=>exact e7 x.1
theorem Mt {xs:aa} {q:Nat}:num xs q=num ((xs.drop q).take 4) 0:=by
 unfold num
 simp only [List.getD_eq_getElem?_getD,List.getElem?_take,List.getElem?_drop,Nat.add_zero,Nat.zero_add]
 rfl
theorem Mu {sl:List Slot} {q:Nat} {nm:aa} {i:Nat} (h:q < sl.length) (hs:sl[q]=some (nm,i)) (hi:i < 4294967296):num (dirB sl) (64 * q)=i:=by
 have h1:=Il (r:=0) (k:=4) h (by decide)
 have h4:(put4 (List.replicate 4 0) 0 i).length=4:=by rw [bu];rfl
 rw [Mt,show 64 * q=64 * q+0 from rfl,h1,hs,List.drop_zero]
 show num ((put4 (List.replicate 4 0) 0 i++(keyB nm++List.replicate 9 0)).take 4) 0=i
 rw [List.take_left' h4]
 exact xc (by rw [List.length_replicate];decide) hi
def setS (sl:List Slot) (q:Nat) (s:Slot):List Slot:=sl.take q++s :: sl.drop (q+1)
theorem Bo {sl:List Slot} {q:Nat} (h:q<=sl.length) (s:Slot):(setS sl q s).length=max sl.length (q+1):=by
 unfold setS
 rw [List.length_append,List.length_take,List.length_cons,List.length_drop];omega
theorem zj {sl:List Slot} {q:Nat} (h:q<=sl.length) (s:Slot):(setS sl q s)[q]?=some s:=by
 unfold setS
 rw [List.getElem?_append_right (by rw [List.length_take];omega),List.length_take,Nat.min_eq_left h,Nat.sub_self]
 rfl
theorem vl {sl:List Slot} {q j:Nat} (h:q<=sl.length) (hj:j≠q) (s:Slot):(setS sl q s)[j]?=sl[j]?:=by
 unfold setS
 rcases Nat.lt_or_gt_of_ne hj with hlt | hgt
 ·rw [List.getElem?_append_left (by rw [List.length_take];omega),List.getElem?_take,if_pos hlt]
 ·rw [List.getElem?_append_right (by rw [List.length_take];omega),List.length_take,Nat.min_eq_left h,show j - q=(j - q - 1)+1 from by omega,List.getElem?_cons_succ,List.getElem?_drop]
  congr 1;omega
theorem Q0 {sl:List Slot} {q:Nat} (h:q<=sl.length) (s:Slot):wrB (dirB sl) (64 * q) (kx s)=dirB (setS sl q s):=by
 have hl:=cg sl
 have ht:(dirB (sl.take q)).length=64 * q:=by rw [cg,List.length_take];omega
 have h1:dirB (s :: sl.drop (q+1))=kx s++dirB (sl.drop (q+1)):=by unfold dirB;rw [List.flatMap_cons]
 unfold setS
 rw [ne,h1]
 unfold wrB mo
 by_cases hq:q < sl.length
 ·have hx:ext (dirB sl) (64 * q+(kx s).length)=dirB sl:=by
   unfold ext
   rw [dh,show 64 * q+64 - (dirB sl).length=0 from by omega,List.replicate_zero,List.append_nil]
  have e1:(dirB sl).take (64 * q)=dirB (sl.take q):=by
   rw [pm hq,List.take_left' ht]
  have e2:(dirB sl).drop (64 * q+(kx s).length)=dirB (sl.drop (q+1)):=by
   rw [pm hq,<-List.append_assoc,List.drop_left' (by rw [List.length_append,ht,dh,dh])]
  simp only [hx,e1,e2,List.append_assoc]
 ·have hqe:q=sl.length:=by omega
  have e0:sl.take q=sl:=by rw [hqe,List.take_length]
  have e3:sl.drop (q+1)=[]:=List.drop_eq_nil_of_le (by omega)
  rw [e0,e3,Mr,List.append_nil]
  have e1:(ext (dirB sl) (64 * q+(kx s).length)).take (64 * q)=dirB sl:=by
   unfold ext
   rw [List.take_left' (by omega)]
  have e2:(ext (dirB sl) (64 * q+(kx s).length)).drop (64 * q+(kx s).length)=[]:=by
   refine List.drop_eq_nil_of_le ?_
   unfold ext
   rw [List.length_append,List.length_replicate,dh];omega
  simp only [e1,e2,List.append_nil]
def jf (at' i:Nat):Value:=.agg #[nI at',nI i]
def Ts (kv:List (K51×Value)) (q:Nat):Slot->List (K51×Value)
 | none=>kv
 | some (nm,i)=>kput kv (keyK nm) (jf (64 * q) i)
def kvF (sl:List Slot):Nat->List (K51×Value)
 | 0=>[]
 | q+1=>match sl[q]? with
  | some s=>Ts (kvF sl q) q s
  | none=>kvF sl q
def i4 (sl:List Slot):Nat->Option Nat
 | 0=>none
 | q+1=>match i4 sl q with
  | some r=>some r
  | none=>if sl[q]?=some none then some q else none
def d6 (sl:List Slot):Nat:=(i4 sl sl.length).getD sl.length
theorem pn {sl:List Slot}:∀ {n r:Nat},i4 sl n=some r->r < n/\sl[r]?=some none/\∀ j,j < r->sl[j]?≠some none
 | n+1,r,h=>by
  rw [i4] at h
  cases hf:i4 sl n with
  | some r' =>
   rw [hf] at h
   obtain rfl:r'=r:=by simpa using h
   obtain ⟨h1,h2⟩:=pn hf
   exact ⟨by omega,h2⟩
  | none =>
   rw [hf] at h
   simp only at h
   split at h
   ·rename_i hs
    obtain rfl:n=r:=by simpa using h
    refine ⟨by omega,hs,fun j hj hh=>?_⟩
    have:=freeF_none (sl:=sl) hf j hj
    exact this hh
   ·cases h
where
 freeF_none {sl:List Slot}:∀ {n:Nat},i4 sl n=none->∀ j,j < n->sl[j]?≠some none
 | n+1,h,j,hj=>by
  rw [i4] at h
  cases hf:i4 sl n with
  | some r'=>rw [hf] at h;cases h
  | none =>
   rw [hf] at h
   simp only at h
   split at h
   ·cases h
   ·rename_i hs
    by_cases hjn:j=n
    ·subst hjn;exact hs
    ·exact freeF_none hf j (by omega)
theorem rj (sl:List Slot):d6 sl<=sl.length:=by
 unfold d6
 cases h:i4 sl sl.length with
 | none=>exact Nat.le_refl _
 | some r=>exact Nat.le_of_lt (pn h).1
structure DirOk (sl:List Slot):Prop where
 nm:∀ (q:Nat) (n:aa) (i:Nat),sl[q]?=some (some (n,i))->(1<=n.length/\n.length<=50)/\i < 4294967296
 one:∀ (q r:Nat) (n:aa) (i j:Nat),sl[q]?=some (some (n,i))->sl[r]?=some (some (n,j))->q=r
theorem DirOk.nil :DirOk []:=⟨fun q n i h=>(by cases h),fun q r n i j h=>(by cases h)⟩
theorem xj {a b:aa} (ha:a.length<=50) (hb:b.length<=50) (h:keyK a=keyK b):a=b:=Mq ha hb (congrArg Subtype.val h)
theorem Io {sl:List Slot} (hd:DirOk sl) {q i:Nat} {n:aa} (h:sl[q]?=some (some (n,i))):∀ m,q < m->kget (kvF sl m) (keyK n)=some (jf (64 * q) i)
 | m+1,hm=>by
  rw [kvF]
  by_cases hq:q=m
  ·subst hq
   rw [h]
   show kget (kput (kvF sl q) (keyK n) (jf (64 * q) i)) (keyK n)=_
   rw [cj,if_pos rfl]
  ·have ih:=Io hd h m (by omega)
   cases hs:sl[m]? with
   | none=>exact ih
   | some s =>
    cases s with
    | none=>exact ih
    | some x =>
     obtain ⟨n',i'⟩:=x
     show kget (kput (kvF sl m) (keyK n') (jf (64 * m) i')) (keyK n)=_
     rw [cj,if_neg,ih]
     intro hk
     have:=xj (hd.nm _ _ _ h).1.2 (hd.nm _ _ _ hs).1.2 hk
     subst this
     exact hq (hd.one _ _ _ _ _ h hs)
theorem Ip {sl:List Slot} (hd:DirOk sl) {n:aa} (hn:n.length<=50) (h:∀ (q i:Nat),sl[q]?≠some (some (n,i))):∀ m,kget (kvF sl m) (keyK n)=none
 | 0=>rfl
 | m+1=>by
  rw [kvF]
  have ih:=Ip hd hn h m
  cases hs:sl[m]? with
  | none=>exact ih
  | some s =>
   cases s with
   | none=>exact ih
   | some x =>
    obtain ⟨n',i'⟩:=x
    show kget (kput (kvF sl m) (keyK n') (jf (64 * m) i')) (keyK n)=_
    rw [cj,if_neg,ih]
    intro hk
    have:=xj hn (hd.nm _ _ _ hs).1.2 hk
    subst this
    exact h _ _ hs
theorem DirOk.set {sl:List Slot} (hd:DirOk sl) {q:Nat} (hq:q<=sl.length) {n:aa} {i:Nat} (hn:1<=n.length/\n.length<=50) (hi:i < 4294967296)
  (h:∀ (r j:Nat),r≠q->sl[r]?≠some (some (n,j))):DirOk (setS sl q (some (n,i))):=by
 have get:∀ (r:Nat) (n':aa) (i':Nat),(setS sl q (some (n,i)))[r]?=some (some (n',i'))->(r=q/\n'=n/\i'=i) ∨ (r≠q/\sl[r]?=some (some (n',i'))):=by
  intro r n' i' hr
  by_cases hrq:r=q
  ·subst hrq
   rw [zj hq] at hr
   injection hr with hr
   injection hr with hr
   injection hr with h1 h2
   exact .inl ⟨rfl,h1.symm,h2.symm⟩
  ·rw [vl hq hrq] at hr
   exact .inr ⟨hrq,hr⟩
 refine ⟨fun r n' i' hr=>?_,fun r t n' i' j' hr ht=>?_⟩
 ·rcases get _ _ _ hr with ⟨_,rfl,rfl⟩ | ⟨_,hr⟩
  ·exact ⟨hn,hi⟩
  ·exact hd.nm _ _ _ hr
 ·rcases get _ _ _ hr with ⟨h1,h2,h3⟩ | ⟨hrq,hr2⟩
  ·rcases get _ _ _ ht with ⟨h4,_,_⟩ | ⟨htq,ht2⟩
   ·rw [h1,h4]
   ·rw [h2] at ht2
    exact absurd ht2 (h _ _ htq)
  ·rcases get _ _ _ ht with ⟨h4,h5,h6⟩ | ⟨htq,ht2⟩
   ·rw [h5] at hr2
    exact absurd hr2 (h _ _ hrq)
   ·exact hd.one _ _ _ _ _ hr2 ht2
theorem oa :c5 Tryz.prog 260 51=true:=by kernel_rfl
theorem Iq :mc Tryz.prog 260 5 51 1=true:=by kernel_rfl
theorem Tt :Tryz.prog.underlying 260=some (.array 51 5):=by kernel_rfl
theorem pq :ad Tryz.prog 159 0 0=true:=by kernel_rfl
theorem Ir :ad Tryz.prog 159 1 1=true:=by kernel_rfl
theorem Is :jp Tryz.prog 256 260 262=true:=by kernel_rfl
theorem key0 :ba Tryz.prog 260=some (bvs (List.replicate 51 0)).toArray:=by kernel_rfl
theorem nf (nm:aa):∀ v∈bvs (keyB nm),Value.single v=true:=bo _
theorem ci (nm:aa):(bvs (keyB nm)).length=51:=by rw [ag,e7]
theorem dOf {nm:aa} (hn:nm.length<=50):Spec Tryz.prog 183 #[sv nm] [] fun F v M=>v=arrV (keyB nm)/\M=F:=by
 refine Spec.intro Tryz.func183 rfl rfl fun B F=>?_
 simp only [Tryz.ntmps183,List.cons_append,List.nil_append,env0,Nat.reduceAdd]
 refine .sr ?_
 refine .allocL (us:=bvs (List.replicate 51 0)) key0 rfl fun b2=>?_
 refine .x (.move ?_)
 refine .lenT _ ?_ st9
 refine .cvt ?_ un3 un5
 refine .cast (d:=5) (u:=bv (UInt8.ofNat nm.length)) rfl (cI9 (by rw [UInt8.toNat_ofNat',IntWalk.u8_in _ (by omega)];omega)) ?_
 refine .idxA ?_ Iq
 refine .stL (xs:=bvs (List.replicate 51 0)) (i:=0) ?_ sc5 (by rw [ag,List.length_replicate];decide)
 refine .to (A:=row b2 260 ((bvs (List.replicate 51 0)).set 0 (bv (UInt8.ofNat nm.length)))) (A':=buf b2 260 51 (bvs (UInt8.ofNat nm.length :: List.replicate 50 0))) (fun h hh=>u7 (by rw [ag];rfl) h hh) ?_
 refine .x ?_
 refine .slcArrL ?_ Iq
 refine .move ?_
 refine .copyS nm so79 ?_ (hdl:=by rw [ag];exact Nat.le_refl _)
 refine .to (A:=buf b2 260 51 ((bvs (UInt8.ofNat nm.length :: List.replicate 50 0)).take 1++(bvs nm).take (min nm.length 50)++(bvs (UInt8.ofNat nm.length :: List.replicate 50 0)).drop (1+min nm.length 50))) (A':=row b2 260 (bvs (keyB nm))) (fun h hh=>Eu (ci nm) h (by rw [<- Ik hn,bj,bj,ck,ck,ei];exact hh)) ?_
 refine .x ?_
 refine .ldW (xs:=bvs (keyB nm)) ?_ oa (ci nm)
 refine .stLA (xs:=bvs (keyB nm)) (us:=bvs (keyB nm)) ?_ oa (ci nm) (ci nm) (nf nm)
 refine .z (.ret (?_))
 exact .ret1 (h1:=RV.aggL rfl oa (by repeat (first | exact .here | apply Rem.there | apply Repl.there | apply Mem.there)) (ci nm)) ⟨_,⟨rfl,rfl⟩,Am.auto⟩
theorem IN.more {s a c:Nat} {p:Pl} {F0 F:FM} {W W':Nat} {op:Bool} (h:W<=W'):∀ k,IN s a c p F0 F W op k->IN s a c p F0 F W' op k:=by
 intro k hk
 obtain ⟨y,hy,hs⟩:=(IN.opens s a c p F0 F W op).to k hk
 exact (IN.opens s a c p F0 F W' op).of y ⟨hy.r0,hy.r,hy.dk,Nat.le_trans hy.wt h⟩ k hs
theorem Rw.less {p:Pl} {W c c':Nat} (h:Rw p W c) (hc:c'<=c):Rw p W c':=by
 unfold Rw at h ⊢
 omega
theorem Mv (n q:Nat) (h:64 * q<=64 * n):has (max (64 * n) (64 * q+64)) - has (64 * n)<=2:=by
 have h1:dat (max (64 * n) (64 * q+64))<=dat (64 * n)+1:=by unfold dat;omega
 unfold has
 split<;>split<;>omega
theorem slotP {nm:aa} (i:Nat):(bvs (put4 (List.replicate 64 0) 0 i)).take 4++(bvs (keyB nm)).take 51++(bvs (put4 (List.replicate 64 0) 0 i)).drop 55=bvs (kx (some (nm,i))):=by
 rw [<- E3,bj,bj,ck,ei,List.take_of_length_le (Nat.le_of_eq (ci nm))]
theorem Q1 (v0 v1:Int):av Tryz.prog 262 [(0,.int .i64 v0),(1,.int .i64 v1)] #[.int .i64 v0,.int .i64 v1]:=fun w=>by kernel_rfl
theorem Tu :l3 Tryz.prog 260 5 51=true:=by kernel_rfl
def encK :K51->Value:=fun k=>Value.agg (bvs k.1).toArray
theorem klN :KeyLaw Tryz.prog 260 encK:=P2 (fun k:K51=>k.1) Tu (fun k=>k.2) (fun a b h=>Subtype.ext h)
def pr (sl:List Slot) (q:Nat):Int:=match i4 sl q with
 | some r=>((64 * r:Nat):Int)
 | none=>-1
theorem dLay {s a c:Nat} {p:Pl} {F0 Fm:FM} {W d q i:Nat} {nm:aa} {sl:List Slot} (ho:PlOk p) (hF:Fm d=some (2,dirB sl)) (hq:q<=sl.length) (hq2:q < 1104) (hn:nm.length<=50) (hi:i < 4294967296) (hw:Rw p W 13) (hfit:tot Fm p.ino+has (max (64 * sl.length) (64 * q+64))<=p.dc+has (64 * sl.length)) :
  Spec Tryz.prog 194 #[.pointer (some ⟨s,0,none⟩),nI d,nI (64 * q),sv nm,nI i] [IN s a c p F0 Fm W true] fun G v M=>v=okV/\M=IN s a c p F0 (updM Fm d (some (2,dirB (setS sl q (some (nm,i)))))) (W+8) true :: G:=by
 refine Spec.intro Tryz.func194 rfl rfl fun B F=>?_
 simp only [Tryz.ntmps194,List.cons_append,List.nil_append,env0,Nat.reduceAdd]
 have hdl:=cg sl
 have hsl:=dh (some (nm,i))
 have hhs:=Mv sl.length q (by omega)
 refine .sr (.assign (.x ?_))
 refine .mkSN 64 z5 so79 (by decide) (by decide) fun b15=>?_
 refine .to (A':=buf b15 5 64 (bvs (List.replicate 64 0))) (fun h hh=>by rw [bw];exact hh) ?_
 refine .move ?_
 refine .cvt ?_ un3 cx
 refine .cast (d:=17) (u:=.int .u64 (i:Int)) rfl (cI9 (IntWalk.u64_in _ (by omega))) ?_
 refine .call (hc:=Tryz.call105) (sp:=li (n:=64) (xs:=List.replicate 64 0) (p:=0) (size:=4) (big:=false) (v:=i) Reads.buf List.length_replicate (by decide) (by decide) (by decide) (by decide) (by omega)) (h:=?_)
 rintro _ _ ⟨gb,qq,⟨rfl,h1,h2⟩,rfl⟩
 refine .move ?_
 refine .extract (.extract (.assign (.assign (.x (.move ?_)))))
 refine .call (hc:=Tryz.call183) (sp:=dOf hn) (h:=?_)
 rintro _ _ ⟨rfl,rfl⟩
 refine .allocL (us:=bvs (List.replicate 51 0)) key0 rfl fun b13=>?_
 refine .stLA (xs:=bvs (List.replicate 51 0)) (us:=bvs (keyB nm)) ?_ oa (ci nm) rfl (nf nm)
 refine .to (A:=row b13 260 (bvs (keyB nm))) (A':=buf b13 260 51 (bvs (keyB nm))) (fun h hh=>u7 (ci nm) h hh) ?_
 refine .z (.seq ?_)
 refine .dr ([]) [] 4 mixed .autoJ ?_
 refine .tk 0 rfl .move ?_
 refine .tk 1 rfl ((Qt.slcL so79).eq (v':=.slice (some ⟨gb,4,none⟩) 60 (qq - 4)) (by rw [if_neg (by show ¬ qq=4;omega)];rfl)) ?_
 refine .tk 2 rfl (Qt.slcArr Tt (by kernel_rfl)) ?_
 refine .on 3 rfl fun hnp=>?_
 refine .copy (R:=buf b13 260 51 (bvs (keyB nm))) (m:=51) (g:=gb) (off:=4) (dl:=60) (k:=qq) (xs:=bvs (put4 (List.replicate 64 0) 0 i)) (ys:=bvs (keyB nm)) so79 Reads.buf (ci nm) (bo _) ?_ (hdl:=by rw [ag,bu,List.length_replicate];decide)
 refine .to (A':=buf gb 5 qq (bvs (kx (some (nm,i))))) (fun h hh=>by rw [<- slotP];exact hh) ?_
 refine .nil (.wa hnp ?_)
 refine .fin ?_
 refine .next (.sr (.move (.move (.move (.move ?_)))))
 refine .call (hc:=Tryz.call169) (sp:=Oq (s:=s) (a:=a) (c:=c) (p:=p) (F0:=F0) (F:=Fm) (W:=W) (i:=d) (at':=64 * q) (f:=(2,dirB sl)) (bs:=kx (some (nm,i))) (m:=64) ho hF (hw.less (by show has (max (dirB sl).length (64 * q+64)) - has (dirB sl).length+(64+511) / 512+10<=13;rw [hdl];omega)) (.inr Reads.buf) hsl (by omega) h2 (by show 64 * q<=(dirB sl).length;omega) (by omega) (by show tot Fm p.ino+has (max (dirB sl).length (64 * q+64))<=p.dc+has (dirB sl).length;rw [hdl];exact hfit)) (h:=?_)
 rintro _ _ ⟨rfl,rfl⟩
 refine .assign (.z (.ret (?_)))
 simp only [Q0 hq]
 refine .to (A':=IN s a c p F0 (updM Fm d (some (2,dirB (setS sl q (some (nm,i)))))) (W+8) true) (fun h hh=>IN.more (by show W+(has (max (dirB sl).length (64 * q+64)) - has (dirB sl).length)+(64+511) / 512+5<=W+8;rw [hdl];omega) h hh) ?_
 exact .ret1 (h1:=.tmp (t:=10) rfl) ⟨_,⟨rfl,rfl⟩,Am.auto⟩
theorem ob {sl:List Slot} {q r:Nat} (h:i4 sl q=some r):pr sl q=((64 * r:Nat):Int):=by unfold pr;rw [h]
theorem zk {sl:List Slot} {q:Nat} (h:i4 sl q=none):pr sl q=-1:=by unfold pr;rw [h]
theorem E4 {sl:List Slot} {q r:Nat} (h:i4 sl q=some r):pr sl (q+1)=((64 * r:Nat):Int):=ob (by rw [i4,h])
theorem It {sl:List Slot} {q:Nat} (h:i4 sl q=none) (hs:sl[q]?=some none):pr sl (q+1)=((64 * q:Nat):Int):=ob (by rw [i4,h];simp [hs])
theorem E5 {sl:List Slot} {q:Nat} {x:aa×Nat} (hs:sl[q]?=some (some x)):pr sl (q+1)=pr sl q:=by
 unfold pr
 rw [i4]
 cases h:i4 sl q with
 | some r=>rfl
 | none=>simp [hs]
theorem zl (s:Slot):∀ v∈bvs (tl s),Value.single v=true:=bo _
theorem tm (s:Slot):(bvs (tl s)).length=51:=by rw [ag,zi]
theorem Dc {s a c:Nat} {p:Pl} {F0 Fm:FM} {W d:Nat} {op:Bool} {sl:List Slot} (ho:PlOk p) (hF:Fm d=some (2,dirB sl)) (hd:DirOk sl) (hsz:sl.length<=1104) :
  Spec Tryz.prog 175 #[.pointer (some ⟨s,0,none⟩),nI d] [IN s a c p F0 Fm W op] fun G v M=>∃ mp es cl,v=.tuple #[.map (some mp),nI (64 * d6 sl),.int .i64 0]/\MapIs encK es cl (kvF sl sl.length)/\M=pt mp (.map es cl) :: IN s a c p F0 Fm W op :: G:=by
 refine Spec.intro Tryz.func175 rfl rfl fun B F=>?_
 simp only [Tryz.ntmps175,List.cons_append,List.nil_append,env0,Nat.reduceAdd]
 have hdl:=cg sl
 refine .sr (.assign (.assign (.assign (.x (.move (.move ?_))))))
 refine .call (hc:=Tryz.call174) (sp:=Qu (s:=s) (a:=a) (c:=c) (p:=p) (F0:=F0) (F:=Fm) (W:=W) (op:=op) (i:=d) (f:=(2,dirB sl)) ho hF) (h:=?_)
 rintro _ _ ⟨rfl,rfl⟩
 refine .move ?_
 refine .extract (.extract ?_)
 refine .alloc z159 fun b7=>?_
 refine .stV ?_ cw
 refine .assign (.z (.seq (.sr (.move ?_))))
 refine .nei (.z ?_)
 refine .condF rfl rfl ?_
 refine .skip (.next (.seq (.sr ?_)))
 refine .fa ?_ pq
 refine .ld ?_ sc3
 refine .nei (.z ?_)
 refine .condF rfl rfl ?_
 refine .skip (.next (.sr (.move (.move ?_))))
 refine .fa ?_ Ir
 refine .ld ?_ sc3
 refine .call (hc:=Tryz.call188) (sp:=Tn (s:=s) (a:=a) (c:=c) (p:=p) (F0:=F0) (F:=Fm) (W:=W) (op:=op) (i:=d) (at':=0) (k:=(dirB sl).length) (f:=(2,dirB sl)) ho hF (by decide) (by omega)) (h:=?_)
 rintro _ _ ⟨u,rfl,rfl⟩
 simp only [List.drop_zero,List.take_length]
 refine .move ?_
 refine .extract (.extract ?_)
 refine .assign (.assign (.z (.seq (.sr (.move ?_)))))
 refine .nei (.z ?_)
 refine .condF rfl rfl ?_
 refine .skip (.next (.sr ?_))
 refine .mkMap fun m36=>?_
 refine .assign (.assign (.z (.seq (.sr (.assign (.z (.block ?_)))))))
 refine .fact (ae (el:=5) (size:=1) (v:=u) (k:=(dirB sl).length) (xs:=bvs (dirB sl))) (fun ⟨A2,c2,hv2,hR2,hk2,hc2,hl2⟩=>?_)
 subst hv2
 refine .loopA (σ:=Nat×Array MapEntry×Nat) (fun y=>[(4,.map (some m36)),(5,.int .i64 (pr sl y.1)),(8,.slice A2 (dirB sl).length c2),(9,nI (64 * y.1))]) (fun y=>[pt m36 (.map y.2.1 y.2.2),rowR 5 1 (.slice A2 (dirB sl).length c2) (dirB sl).length (bvs (dirB sl)),IN s a c p F0 Fm W op]++F) (fun y=>y.1<=sl.length/\MapIs encK y.2.1 y.2.2 (kvF sl y.1)) (fun y=>sl.length - y.1) (0,#[],0) ⟨Nat.zero_le _,MapIs.empty _ _⟩ ?_
 rintro y hy
 obtain ⟨q,es,cl⟩:=y
 obtain ⟨hq,hm⟩:=hy
 simp only at hq hm
 refine .seq (.sr (.move (.move ?_)))
 refine .lenS ?_ sl79
 refine .lss (.z ?_)
 refine .cond rfl (fun hb=>?_) (fun hb=>?_)
 ·have hlt:q < sl.length:=by have h:((64 * q:Nat):Int) < ((dirB sl).length:Int):=of_decide_eq_true hb;omega
  rcases A2 with _ | ⟨ab,ao,asp⟩
  ·exact absurd hR2 (fun h=>by have h2:bvs (dirB sl)=[]:=h;have h3:(dirB sl).length=0:=(by have:=congrArg List.length h2;rwa [ag] at this);omega)
  have hsp:asp=none:=hR2.1
  subst hsp
  have hp1:(((64 * q:Nat):Int)+4).toNat=64 * q+4:=by omega
  have hp2:(((64 * q:Nat):Int)+4+51).toNat=64 * q+55:=by omega
  have hgs:sl[q]?=some sl[q]:=List.getElem?_eq_getElem hlt
  obtain ⟨sq,hsq⟩:∃ sq,sl[q]=sq:=⟨_,rfl⟩
  have hkq:=Ms hlt
  rw [hsq] at hgs hkq
  have hkv:kvF sl (q+1)=Ts (kvF sl q) q sq:=by rw [kvF,hgs]
  refine .skip (.next (.seq (.block (.sr (.move (.move ?_))))))
  refine .add ?_
  refine .move ?_
  refine .add ?_
  refine .add ?_
  refine .slcLH ?_ so79
  refine .cast (d:=49) (u:=.slice (some ⟨ab,ao+(64 * q+4),none⟩) 51 (c2 - (64 * q+4))) rfl (by rw [hp1,hp2,if_neg (show ¬ c2=64 * q+4 by omega),Nat.mul_one,show 64 * q+55 - (64 * q+4)=51 from by omega]) ?_
  refine .toArr ?_ Tt
  refine .ldAR (i:=64 * q+4) (xs:=bvs (dirB sl)) (us:=bvs (tl sq)) ?_ oa hR2 (by rw [<- ei,<-ck,hkq]) (by rw [ag];omega)
  refine .allocL (us:=bvs (List.replicate 51 0)) key0 rfl fun b10=>?_
  refine .stLA (xs:=bvs (List.replicate 51 0)) (us:=bvs (tl sq)) ?_ oa (tm sq) rfl (zl sq)
  refine .z (.seq (.sr ?_))
  refine .idxA ?_ Iq
  cases sq
  ·refine .ldL (xs:=bvs (tl none)) (i:=0) (v:=.int .u8 0) ?_ sc5 rfl
   refine .eqi (.z ?_)
   refine .condT rfl rfl ?_
   refine .seq (.sr (.move ?_))
   refine .lss (.z ?_)
   cases hfr:i4 sl q
   ·rw [zk hfr]
    refine .condT rfl rfl ?_
    refine .region (.move (.assign (.z ?_)))
    refine .exit (.thenExit (.blockExit (?_)))
    refine .next (.region (.move ?_))
    refine .add ?_
    refine .assign (.nil ?_)
    refine .cast (d:=9) (u:=nI (64 * (q+1))) rfl (cI9 (by omega)) ?_
    refine .cast (d:=5) (u:=.int .i64 (pr sl (q+1))) rfl (cI9 (by rw [It hfr hgs])) ?_
    exact .back (q+1,es,cl) ⟨by show q+1<=sl.length;omega,(by rw [hkv];exact hm)⟩ (by show sl.length - (q+1) < sl.length - q;omega)
   ·rename_i r
    rw [ob hfr]
    refine .condF rfl (cB9 (by first|simp;done|simp;omega|omega)) ?_
    refine .skip (.next ?_)
    refine .exit (.thenExit (.blockExit (?_)))
    refine .next (.region (.move ?_))
    refine .add ?_
    refine .assign (.nil ?_)
    refine .cast (d:=9) (u:=nI (64 * (q+1))) rfl (cI9 (by omega)) ?_
    refine .cast (d:=5) (u:=.int .i64 (pr sl (q+1))) rfl (cI9 (by rw [E4 hfr])) ?_
    exact .back (q+1,es,cl) ⟨by show q+1<=sl.length;omega,(by rw [hkv];exact hm)⟩ (by show sl.length - (q+1) < sl.length - q;omega)
  ·rename_i x
   obtain ⟨nm,i⟩:=x
   have hnm:=hd.nm q nm i hgs
   have hnum:=Mu hlt hsq hnm.2
   have hx0:(bvs (tl (some (nm,i))))[0]?=some (bv (UInt8.ofNat nm.length)):=by show (bvs (keyB nm))[0]?=_;unfold bvs;rw [List.getElem?_map,n9];rfl
   have hxn:((UInt8.ofNat nm.length).toNat:Int)≠0:=by rw [UInt8.toNat_ofNat'];omega
   refine .ldL (xs:=bvs (tl (some (nm,i)))) (i:=0) (v:=bv (UInt8.ofNat nm.length)) ?_ sc5 hx0
   refine .eqi ?_
   refine .cast (d:=54) (u:=.bool false) rfl (cB9 (decide_eq_false hxn)) ?_
   refine .z ?_
   refine .condF rfl rfl ?_
   refine .skip (.next (.sr (.move (.move ?_))))
   refine .call (hc:=Tryz.call157) (sp:=lh (A:=⟨ab,ao,none⟩) (n:=(dirB sl).length) (c:=c2) (xs:=dirB sl) (p:=((64 * q:Nat):Int)) (size:=4) (big:=false) hR2 rfl (by omega) (by decide) (by omega) (by omega)) (h:=?_)
   rintro _ _ ⟨rfl,rfl⟩
   refine .cast (d:=61) (u:=.tuple #[.int .u64 (i:Int),.bool true]) rfl (by rw [show (((64 * q:Nat):Int)).toNat=64 * q from by omega,show (4:Int).toNat=4 from rfl,Ht (by omega),hnum]) ?_
   refine .move ?_
   refine .extract (.extract (.assign (.assign (.y (.move ?_)))))
   refine .ldW (xs:=bvs (tl (some (nm,i)))) ?_ oa (tm _)
   refine .move (.move ?_)
   refine .cvt ?_ cx un3
   refine .cast (d:=68) (u:=nI i) rfl (cI9 (IntWalk.i64_in _ (by omega))) ?_
   refine .build ?_ (Q1 _ _)
   refine .upd (k:=keyK nm) (v:=jf (64 * q) i) klN hm Is fun es_1 c_1 hm_1=>?_
   refine .nil (.blockNormal (.next (.region (.move ?_))))
   refine .add ?_
   refine .assign (.nil ?_)
   refine .cast (d:=9) (u:=nI (64 * (q+1))) rfl (cI9 (by omega)) ?_
   refine .cast (d:=5) (u:=.int .i64 (pr sl (q+1))) rfl (cI9 (by rw [E5 hgs])) ?_
   exact .back (q+1,es_1,c_1) ⟨by show q+1<=sl.length;omega,(by rw [hkv];exact hm_1)⟩ (by show sl.length - (q+1) < sl.length - q;omega)
 ·have hge:¬ q < sl.length:=by have h:¬ ((64 * q:Nat):Int) < ((dirB sl).length:Int):=of_decide_eq_false hb;omega
  have hqe:q=sl.length:=by omega
  subst hqe
  refine .exit (.thenExit (.thenExit (.blockExit (?_))))
  refine .next (.seq (.sr (.move ?_)))
  refine .lss (.z ?_)
  cases hfr:i4 sl sl.length
  ·have hfs:d6 sl=sl.length:=by unfold d6;rw [hfr];rfl
   rw [zk hfr]
   refine .condT rfl rfl ?_
   refine .region (.move ?_)
   refine .lenS ?_ sl79
   refine .assign (.x (.move (.move (.assign (.assign (.assign (.z ?_)))))))
   refine .ret (?_)
   exact .ret3 (h1:=.tmp (t:=4) rfl) (h2:=.tmp (t:=5) rfl) (h3:=.tmp (t:=6) rfl) ⟨_,⟨m36,es,cl,by rw [hfs,<-hdl];rfl,hm,rfl⟩,Am.auto⟩
  ·rename_i r
   have hfs:d6 sl=r:=by unfold d6;rw [hfr];rfl
   rw [ob hfr]
   refine .condF rfl (cB9 (by first|simp;done|simp;omega|omega)) ?_
   refine .skip (.next (.sr (.move (.move (.assign (.assign (.assign (.z ?_))))))))
   refine .ret (?_)
   exact .ret3 (h1:=.tmp (t:=4) rfl) (h2:=.tmp (t:=5) rfl) (h3:=.tmp (t:=6) rfl) ⟨_,⟨m36,es,cl,by rw [hfs];rfl,hm,rfl⟩,Am.auto⟩
theorem Q2 :zvOf Tryz.prog 262=some (.agg (#[.int .i64 0,.int .i64 0])):=by kernel_rfl
theorem z262 :ba Tryz.prog 262=some (#[.int .i64 0,.int .i64 0]):=by kernel_rfl
theorem Dd :c5 Tryz.prog 262 2=true:=by kernel_rfl
theorem Iu :ad Tryz.prog 262 1 1=true:=by kernel_rfl
theorem Tv {s a c:Nat} {p:Pl} {F0 Fm:FM} {W:Nat} {op:Bool}:Spec Tryz.prog 140 #[.pointer (some ⟨s,0,none⟩)] [IN s a c p F0 Fm W op] fun G v M=>v=.bool op/\M=IN s a c p F0 Fm W op :: G:=by
 refine Spec.opens (IN.opens s a c p F0 Fm W op) fun y hy=>((td (s:=s) (c:=c) (a:=a) (n:=p.n) (p:=p) (V0:=y.1) (V:=y.2.1) (D:=y.2.2) (op:=op)).mid).post ?_
 rintro G v M ⟨rfl,rfl⟩
 exact ⟨_,⟨rfl,rfl⟩,Wk.trans (Am.wk Am.auto) (Wk.shutR (M:=G) (IN.opens s a c p F0 Fm W op) y hy)⟩
def Bp (nm:aa) (F:FM) (d:Int) (e:Int):Prop :=
 (am nm=false/\e=1) ∨ (am nm=true/\fileAt F d=none/\e=4) ∨ (am nm=true/\(∃ k b,0<=d/\F d.toNat=some (k,b)/\k≠2)/\e=6)
theorem aq {nm:aa} (h:am nm=true):1<=nm.length/\nm.length<=50:=by
 unfold am at h
 simp only [Bool.and_eq_true,Bool.not_eq_true',decide_eq_false_iff_not,decide_eq_true_iff] at h
 obtain ⟨h1,h2,_⟩:=h
 refine ⟨?_,h2⟩
 cases nm with
 | nil=>exact absurd rfl h1
 | cons _ _=>rw [List.length_cons];omega
theorem Mw {s a c:Nat} {p:Pl} {F0 Fm:FM} {W:Nat} {d:Int} {op:Bool} (ho:PlOk p) (hF:fileAt Fm d=none):Spec Tryz.prog 175 #[.pointer (some ⟨s,0,none⟩),.int .i64 d] [IN s a c p F0 Fm W op] fun G v M=>v=.tuple #[.map none,.int .i64 0,.int .i64 4]/\M=IN s a c p F0 Fm W op :: G:=by
 refine Spec.intro Tryz.func175 rfl rfl fun B F=>?_
 simp only [Tryz.ntmps175,List.cons_append,List.nil_append,env0,Nat.reduceAdd]
 refine .sr (.assign (.assign (.assign (.x (.move (.move ?_))))))
 refine .call (hc:=Tryz.call174) (sp:=Ib (s:=s) (a:=a) (c:=c) (p:=p) (F0:=F0) (F:=Fm) (W:=W) (op:=op) (i:=d) ho hF) (h:=?_)
 rintro _ _ ⟨rfl,rfl⟩
 refine .move ?_
 refine .extract (.extract ?_)
 refine .alloc z159 fun b7=>?_
 refine .stV ?_ cw
 refine .assign (.z (.seq (.sr (.move ?_))))
 refine .nei (.z ?_)
 refine .condT rfl rfl ?_
 refine .sr (.move (.assign (.assign (.assign (.z ?_)))))
 refine .ret (.thenRet (?_))
 exact .ret3 (h1:=.tmp (t:=4) rfl) (h2:=.tmp (t:=5) rfl) (h3:=.tmp (t:=6) rfl) ⟨_,⟨rfl,rfl⟩,Am.auto⟩
theorem E6 {s a c:Nat} {p:Pl} {F0 Fm:FM} {W:Nat} {d k:Nat} {b:aa} {op:Bool} (ho:PlOk p) (hF:Fm d=some (k,b)) (hk:k≠2):Spec Tryz.prog 175 #[.pointer (some ⟨s,0,none⟩),nI d] [IN s a c p F0 Fm W op] fun G v M=>v=.tuple #[.map none,.int .i64 0,.int .i64 6]/\M=IN s a c p F0 Fm W op :: G:=by
 refine Spec.intro Tryz.func175 rfl rfl fun B F=>?_
 simp only [Tryz.ntmps175,List.cons_append,List.nil_append,env0,Nat.reduceAdd]
 refine .sr (.assign (.assign (.assign (.x (.move (.move ?_))))))
 refine .call (hc:=Tryz.call174) (sp:=Qu (s:=s) (a:=a) (c:=c) (p:=p) (F0:=F0) (F:=Fm) (W:=W) (op:=op) (i:=d) (f:=(k,b)) ho hF) (h:=?_)
 rintro _ _ ⟨rfl,rfl⟩
 refine .move ?_
 refine .extract (.extract ?_)
 refine .alloc z159 fun b7=>?_
 refine .stV ?_ cw
 refine .assign (.z (.seq (.sr (.move ?_))))
 refine .nei (.z ?_)
 refine .condF rfl rfl ?_
 refine .skip (.next (.seq (.sr ?_)))
 refine .fa ?_ pq
 refine .ld ?_ sc3
 refine .nei (.z ?_)
 refine .condT rfl (cB9 (by first|simp;done|simp;omega|omega)) ?_
 refine .sr (.assign (.assign (.assign (.z ?_))))
 refine .ret (.thenRet (?_))
 exact .ret3 (h1:=.tmp (t:=4) rfl) (h2:=.tmp (t:=5) rfl) (h3:=.tmp (t:=6) rfl) ⟨_,⟨rfl,rfl⟩,Am.auto⟩
theorem Iv {s a c:Nat} {p:Pl} {F0 Fm:FM} {W:Nat} {d:Int} {op:Bool} {nm:aa} {e:Int} (ho:PlOk p) (hn:am nm=true) (he:Bp nm Fm d e):Spec Tryz.prog 175 #[.pointer (some ⟨s,0,none⟩),.int .i64 d] [IN s a c p F0 Fm W op] fun G v M=>v=.tuple #[.map none,.int .i64 0,.int .i64 e]/\M=IN s a c p F0 Fm W op :: G:=by
 rcases he with ⟨h,_⟩ | ⟨_,h,rfl⟩ | ⟨_,⟨k,b,h0,h,hk⟩,rfl⟩
 ·rw [hn] at h;cases h
 ·exact Mw ho h
 ·have:=E6 (s:=s) (a:=a) (c:=c) (F0:=F0) (W:=W) (op:=op) ho h hk
  rwa [show nI d.toNat=.int .i64 d from cI9 (by omega)] at this
theorem dChg {s a c:Nat} {p:Pl} {F0 Fm:FM} {W:Nat} {d:Nat} {nm:aa} {sl:List Slot} (ho:PlOk p) (hn:am nm=true) (hF:Fm d=some (2,dirB sl)) (hd:DirOk sl) (hsz:sl.length<=1104) :
  Spec Tryz.prog 182 #[.pointer (some ⟨s,0,none⟩),nI d,sv nm] [IN s a c p F0 Fm W true] fun G v M=>∃ mp es cl,v=.tuple #[.map (some mp),nI (64 * d6 sl),.int .i64 0]/\MapIs encK es cl (kvF sl sl.length)/\M=pt mp (.map es cl) :: IN s a c p F0 Fm W true :: G:=by
 refine Spec.intro Tryz.func182 rfl rfl fun B F=>?_
 simp only [Tryz.ntmps182,List.cons_append,List.nil_append,env0,Nat.reduceAdd]
 refine .sr (.assign (.assign (.assign (.z (.seq (.sr (.move ?_)))))))
 refine .call (hc:=Tryz.call140) (sp:=Tv (s:=s) (a:=a) (c:=c) (p:=p) (F0:=F0) (Fm:=Fm) (W:=W) (op:=true)) (h:=?_)
 rintro _ _ ⟨rfl,rfl⟩
 refine .not (.z ?_)
 refine .condF rfl rfl ?_
 refine .skip (.next (.seq (.sr (.move ?_))))
 refine .call (hc:=Tryz.call104) (sp:=Bm (xs:=nm)) (h:=?_)
 rintro _ _ ⟨rfl,rfl⟩
 rw [hn]
 refine .not (.z ?_)
 refine .condF rfl rfl ?_
 refine .skip (.next (.sr (.move (.move ?_))))
 refine .call (hc:=Tryz.call175) (sp:=Dc (s:=s) (a:=a) (c:=c) (p:=p) (F0:=F0) (Fm:=Fm) (W:=W) (d:=d) (op:=true) ho hF hd hsz) (h:=?_)
 rintro _ _ ⟨mp,es,cl,rfl,hm,rfl⟩
 refine .extract (.extract (.extract ?_))
 refine .assign (.assign (.assign (.z (.ret (?_)))))
 exact .ret3 (h1:=.tmp (t:=6) rfl) (h2:=.tmp (t:=7) rfl) (h3:=.tmp (t:=8) rfl) ⟨_,⟨mp,es,cl,rfl,hm,rfl⟩,Am.auto⟩
theorem dAdd {s a c:Nat} {p:Pl} {F0 Fm:FM} {W:Nat} {d:Nat} {nm:aa} {sl:List Slot} (ho:PlOk p) (hn:am nm=true) (hF:Fm d=some (2,dirB sl)) (hd:DirOk sl) (hsz:sl.length<=1104) (hno:∀ (q i:Nat),sl[q]?≠some (some (nm,i))) {i:Nat} (hi:i < 4294967296) (hw:Rw p W 13) (hfs:d6 sl < 1104) (hfit:tot Fm p.ino+has (max (64 * sl.length) (64 * d6 sl+64))<=p.dc+has (64 * sl.length)):Spec Tryz.prog 121 #[.pointer (some ⟨s,0,none⟩),nI d,sv nm,nI i] [IN s a c p F0 Fm W true] fun G v M=>v=okV/\M=IN s a c p F0 (updM Fm d (some (2,dirB (setS sl (d6 sl) (some (nm,i)))))) (W+8) true :: G:=by
 refine Spec.intro Tryz.func121 rfl rfl fun B F=>?_
 simp only [Tryz.ntmps121,List.cons_append,List.nil_append,env0,Nat.reduceAdd]
 refine .sr (.assign (.x (.move (.move (.move ?_)))))
 refine .call (hc:=Tryz.call182) (sp:=dChg (s:=s) (a:=a) (c:=c) (p:=p) (F0:=F0) (Fm:=Fm) (W:=W) (d:=d) (nm:=nm) ho hn hF hd hsz) (h:=?_)
 rintro _ _ ⟨mp,es,cl,rfl,hm,rfl⟩
 refine .move ?_
 refine .extract (.extract (.extract ?_))
 refine .assign (.assign (.assign (.z (.seq (.sr (.move ?_))))))
 refine .nei (.z ?_)
 refine .condF rfl rfl ?_
 refine .skip (.next (.seq (.sr (.move (.move ?_)))))
 refine .call (hc:=Tryz.call183) (sp:=dOf (aq hn).2) (h:=?_)
 rintro _ _ ⟨rfl,rfl⟩
 refine .lookOk (k:=keyK nm) klN hm Is Q2 ?_
 refine .cast (d:=29) (u:=.tuple #[.agg #[.int .i64 0,.int .i64 0],.bool false]) rfl (by rw [Ip hd (aq hn).2 hno];rfl) ?_
 refine .move ?_
 refine .extract (.extract ?_)
 refine .alloc z262 fun b12=>?_
 refine .stV ?_ Dd
 refine .assign (.x (.move (.z ?_)))
 refine .condF rfl rfl ?_
 refine .skip (.next (.sr (.move (.move (.move (.move (.move ?_)))))))
 refine .call (hc:=Tryz.call194) (sp:=dLay (s:=s) (a:=a) (c:=c) (p:=p) (F0:=F0) (Fm:=Fm) (W:=W) (d:=d) (q:=d6 sl) (i:=i) (nm:=nm) (sl:=sl) ho hF (rj sl) hfs (aq hn).2 hi hw hfit) (h:=?_)
 rintro _ _ ⟨rfl,rfl⟩
 refine .assign (.z (.ret (?_)))
 exact .ret1 (h1:=.tmp (t:=8) rfl) ⟨_,⟨rfl,rfl⟩,Am.auto⟩
theorem Tw {s a c:Nat} {p:Pl} {F0 Fm:FM} {W:Nat} {d:Int} {op:Bool} {nm:aa} {e:Int} (ho:PlOk p) (he:Bp nm Fm d e) (he0:e≠0):Spec Tryz.prog 181 #[.pointer (some ⟨s,0,none⟩),.int .i64 d,sv nm] [IN s a c p F0 Fm W op] fun G v M=>v=.tuple #[.int .i64 0,.int .i64 e]/\M=IN s a c p F0 Fm W op :: G:=by
 refine Spec.intro Tryz.func181 rfl rfl fun B F=>?_
 simp only [Tryz.ntmps181,List.cons_append,List.nil_append,env0,Nat.reduceAdd]
 cases hn:am nm
 ·have he1:e=1:=by
   rcases he with ⟨_,h⟩ | ⟨h,_⟩ | ⟨h,_⟩
   ·exact h
   ·rw [hn] at h;cases h
   ·rw [hn] at h;cases h
  subst he1
  refine .sr (.assign (.assign (.z (.seq (.sr (.move ?_))))))
  refine .call (hc:=Tryz.call104) (sp:=Bm (xs:=nm)) (h:=?_)
  rintro _ _ ⟨rfl,rfl⟩
  rw [hn]
  refine .not (.z ?_)
  refine .condT rfl rfl ?_
  refine .sr (.assign (.assign (.z ?_)))
  refine .ret (.thenRet (?_))
  exact .ret2 (h1:=.tmp (t:=6) rfl) (h2:=.tmp (t:=7) rfl) ⟨_,⟨rfl,rfl⟩,Am.auto⟩
 ·refine .sr (.assign (.assign (.z (.seq (.sr (.move ?_))))))
  refine .call (hc:=Tryz.call104) (sp:=Bm (xs:=nm)) (h:=?_)
  rintro _ _ ⟨rfl,rfl⟩
  rw [hn]
  refine .not (.z ?_)
  refine .condF rfl rfl ?_
  refine .skip (.next (.sr (.move (.move ?_))))
  refine .call (hc:=Tryz.call175) (sp:=Iv (s:=s) (a:=a) (c:=c) (p:=p) (F0:=F0) (Fm:=Fm) (W:=W) (d:=d) (op:=op) ho hn he) (h:=?_)
  rintro _ _ ⟨rfl,rfl⟩
  refine .move ?_
  refine .extract (.extract (.extract ?_))
  refine .assign (.assign (.assign (.z (.seq (.sr (.move ?_))))))
  refine .nei (.z ?_)
  refine .condT rfl (cB9 (by first|simp;done|simp;omega|omega)) ?_
  refine .sr (.move (.assign (.assign (.z ?_))))
  refine .ret (.thenRet (?_))
  exact .ret2 (h1:=.tmp (t:=6) rfl) (h2:=.tmp (t:=7) rfl) ⟨_,⟨rfl,rfl⟩,Am.auto⟩
theorem dFind {s a c:Nat} {p:Pl} {F0 Fm:FM} {W:Nat} {d:Nat} {op:Bool} {nm:aa} {sl:List Slot} (ho:PlOk p) (hn:am nm=true) (hF:Fm d=some (2,dirB sl)) (hd:DirOk sl) (hsz:sl.length<=1104) {q j:Nat} (hq:sl[q]?=some (some (nm,j))):Spec Tryz.prog 181 #[.pointer (some ⟨s,0,none⟩),nI d,sv nm] [IN s a c p F0 Fm W op] fun G v M=>v=.tuple #[nI j,.int .i64 0]/\M=IN s a c p F0 Fm W op :: G:=by
 refine Spec.intro Tryz.func181 rfl rfl fun B F=>?_
 simp only [Tryz.ntmps181,List.cons_append,List.nil_append,env0,Nat.reduceAdd]
 have hlt:q < sl.length:=by
  by_cases h:q < sl.length
  ·exact h
  ·rw [List.getElem?_eq_none (by omega)] at hq;cases hq
 refine .sr (.assign (.assign (.z (.seq (.sr (.move ?_))))))
 refine .call (hc:=Tryz.call104) (sp:=Bm (xs:=nm)) (h:=?_)
 rintro _ _ ⟨rfl,rfl⟩
 rw [hn]
 refine .not (.z ?_)
 refine .condF rfl rfl ?_
 refine .skip (.next (.sr (.move (.move ?_))))
 refine .call (hc:=Tryz.call175) (sp:=Dc (s:=s) (a:=a) (c:=c) (p:=p) (F0:=F0) (Fm:=Fm) (W:=W) (d:=d) (op:=op) ho hF hd hsz) (h:=?_)
 rintro _ _ ⟨mp,es,cl,rfl,hm,rfl⟩
 refine .move ?_
 refine .extract (.extract (.extract ?_))
 refine .assign (.assign (.assign (.z (.seq (.sr (.move ?_))))))
 refine .nei (.z ?_)
 refine .condF rfl rfl ?_
 refine .skip (.next (.sr (.move (.move ?_))))
 refine .call (hc:=Tryz.call183) (sp:=dOf (aq hn).2) (h:=?_)
 rintro _ _ ⟨rfl,rfl⟩
 refine .lookOk (k:=keyK nm) klN hm Is Q2 ?_
 refine .cast (d:=30) (u:=.tuple #[.agg #[nI (64 * q),nI j],.bool true]) rfl (by rw [Io hd hq sl.length hlt];rfl) ?_
 refine .move ?_
 refine .extract (.extract ?_)
 refine .alloc z262 fun b11=>?_
 refine .stV ?_ Dd
 refine .assign (.z (.seq (.sr (.move ?_))))
 refine .not (.z ?_)
 refine .condF rfl rfl ?_
 refine .skip (.next (.sr ?_))
 refine .fa ?_ Iu
 refine .ld ?_ sc3
 refine .assign (.assign (.z (.ret (?_))))
 exact .ret2 (h1:=.tmp (t:=6) rfl) (h2:=.tmp (t:=7) rfl) ⟨_,⟨rfl,rfl⟩,Am.auto⟩
theorem Q3 {s a c:Nat} {p:Pl} {F0 Fm:FM} {W:Nat} {d:Nat} {op:Bool} {nm:aa} {sl:List Slot} (ho:PlOk p) (hn:am nm=true) (hF:Fm d=some (2,dirB sl)) (hd:DirOk sl) (hsz:sl.length<=1104) (hno:∀ (q i:Nat),sl[q]?≠some (some (nm,i))):Spec Tryz.prog 181 #[.pointer (some ⟨s,0,none⟩),nI d,sv nm] [IN s a c p F0 Fm W op] fun G v M=>v=.tuple #[.int .i64 0,.int .i64 4]/\M=IN s a c p F0 Fm W op :: G:=by
 refine Spec.intro Tryz.func181 rfl rfl fun B F=>?_
 simp only [Tryz.ntmps181,List.cons_append,List.nil_append,env0,Nat.reduceAdd]
 refine .sr (.assign (.assign (.z (.seq (.sr (.move ?_))))))
 refine .call (hc:=Tryz.call104) (sp:=Bm (xs:=nm)) (h:=?_)
 rintro _ _ ⟨rfl,rfl⟩
 rw [hn]
 refine .not (.z ?_)
 refine .condF rfl rfl ?_
 refine .skip (.next (.sr (.move (.move ?_))))
 refine .call (hc:=Tryz.call175) (sp:=Dc (s:=s) (a:=a) (c:=c) (p:=p) (F0:=F0) (Fm:=Fm) (W:=W) (d:=d) (op:=op) ho hF hd hsz) (h:=?_)
 rintro _ _ ⟨mp,es,cl,rfl,hm,rfl⟩
 refine .move ?_
 refine .extract (.extract (.extract ?_))
 refine .assign (.assign (.assign (.z (.seq (.sr (.move ?_))))))
 refine .nei (.z ?_)
 refine .condF rfl rfl ?_
 refine .skip (.next (.sr (.move (.move ?_))))
 refine .call (hc:=Tryz.call183) (sp:=dOf (aq hn).2) (h:=?_)
 rintro _ _ ⟨rfl,rfl⟩
 refine .lookOk (k:=keyK nm) klN hm Is Q2 ?_
 refine .cast (d:=30) (u:=.tuple #[.agg #[.int .i64 0,.int .i64 0],.bool false]) rfl (by rw [Ip hd (aq hn).2 hno];rfl) ?_
 refine .move ?_
 refine .extract (.extract ?_)
 refine .alloc z262 fun b11=>?_
 refine .stV ?_ Dd
 refine .assign (.z (.seq (.sr (.move ?_))))
 refine .not (.z ?_)
 refine .condT rfl rfl ?_
 refine .sr (.assign (.assign (.z ?_)))
 refine .ret (.thenRet (?_))
 exact .ret2 (h1:=.tmp (t:=6) rfl) (h2:=.tmp (t:=7) rfl) ⟨_,⟨rfl,rfl⟩,Am.auto⟩
theorem z166 :ba Tryz.prog 166=some (#[.string ⟨#[]⟩,.int .i64 0]):=by kernel_rfl
theorem Tx :ar Tryz.prog 162 166 2 24=true:=by kernel_rfl
open Go.Shelf Go.Sort Go.RowKit
theorem xk {κ α:Type} [DecidableEq κ] {l:List (κ×α)} {k k':κ} {v u:α} (h:(k,v)∈kput l k' u) (hk:k=k'):v=u ∨ (k,v)∈l:=by
 induction l with
 | nil =>
  simp only [kput,List.mem_singleton,Prod.mk.injEq] at h
  exact .inl h.2
 | cons p l ih =>
  obtain ⟨a,b⟩:=p
  simp only [kput] at h
  split at h
  ·rcases List.mem_cons.1 h with h | h
   ·injection h with _ h;exact .inl h
   ·exact .inr (List.mem_cons_of_mem _ h)
  ·rcases List.mem_cons.1 h with h | h
   ·exact .inr (h ▸ List.mem_cons_self ..)
   ·rcases ih h with h | h
    ·exact .inl h
    ·exact .inr (List.mem_cons_of_mem _ h)
theorem ut {κ α:Type} [DecidableEq κ] {l:List (κ×α)} {k k':κ} {v u:α} (h:(k,v)∈kput l k' u) (hk:k≠k'):(k,v)∈l:=by
 induction l with
 | nil =>
  simp only [kput,List.mem_singleton,Prod.mk.injEq] at h
  exact absurd h.1 hk
 | cons p l ih =>
  obtain ⟨a,b⟩:=p
  simp only [kput] at h
  split at h
  ·rename_i he
   rcases List.mem_cons.1 h with h | h
   ·injection h with h _;exact absurd (h.trans he.symm) hk
   ·exact List.mem_cons_of_mem _ h
  ·rcases List.mem_cons.1 h with h | h
   ·exact h ▸ List.mem_cons_self ..
   ·exact List.mem_cons_of_mem _ (ih h)
def E7 :Go.Shelf.Ren:=⟨fun | 6=>177 | 14=>234 | 15=>235 | 20=>260 | 21=>261 | 22=>262 | 23=>263 | 24=>264 | 25=>265 | 26=>266 | 27=>267 | 28=>268 | 29=>269 | 46=>296 | 47=>297 | 48=>298 | 49=>299 | 50=>300 | 57=>313 | n=>n,fun | 0=>0 | 3=>3 | 4=>4 | 5=>5 | 9=>9 | 22=>162 | 24=>166 | 25=>265 | 39=>251 | 45=>335 | 46=>336 | 50=>102 | 53=>202 | 55=>104 | 66=>357 | 70=>190 | 76=>366 | 77=>293 | n=>n,fun n=>n⟩
theorem Ot :SlLaysF0.n6 Tryz.prog E7 where
 mixed:=by kernel_rfl
 f6 := ⟨ "slices.SortFunc[[]bollard/dir.Entry,bollard/dir.Entry]", by decide, Tryz.func177.trans (congrArg some (by kernel_rfl))⟩
 f14 := ⟨ "slices.pdqsortCmpFunc[bollard/dir.Entry]", by decide, Tryz.func234.trans (congrArg some (by kernel_rfl))⟩
 f15:=Tryz.func235.trans (congrArg some (by kernel_rfl))
 f20 := ⟨ "slices.insertionSortCmpFunc[bollard/dir.Entry]", by decide, Tryz.func260.trans (congrArg some (by kernel_rfl))⟩
 f21 := ⟨ "slices.heapSortCmpFunc[bollard/dir.Entry]", by decide, Tryz.func261.trans (congrArg some (by kernel_rfl))⟩
 f22 := ⟨ "slices.breakPatternsCmpFunc[bollard/dir.Entry]", by decide, Tryz.func262.trans (congrArg some (by kernel_rfl))⟩
 f23 := ⟨ "slices.choosePivotCmpFunc[bollard/dir.Entry]", by decide, Tryz.func263.trans (congrArg some (by kernel_rfl))⟩
 f24 := ⟨ "slices.reverseRangeCmpFunc[bollard/dir.Entry]", by decide, Tryz.func264.trans (congrArg some (by kernel_rfl))⟩
 f25 := ⟨ "slices.partialInsertionSortCmpFunc[bollard/dir.Entry]", by decide, Tryz.func265.trans (congrArg some (by kernel_rfl))⟩
 f26 := ⟨ "slices.partitionEqualCmpFunc[bollard/dir.Entry]", by decide, Tryz.func266.trans (congrArg some (by kernel_rfl))⟩
 f27 := ⟨ "slices.partitionCmpFunc[bollard/dir.Entry]", by decide, Tryz.func267.trans (congrArg some (by kernel_rfl))⟩
 f28:=Tryz.func268.trans (congrArg some (by kernel_rfl))
 f29:=Tryz.func269.trans (congrArg some (by kernel_rfl))
 f46 := ⟨ "slices.siftDownCmpFunc[bollard/dir.Entry]", by decide, Tryz.func296.trans (congrArg some (by kernel_rfl))⟩
 f47:=Tryz.func297.trans (congrArg some (by kernel_rfl))
 f48:=Tryz.func298.trans (congrArg some (by kernel_rfl))
 f49 := ⟨ "slices.medianAdjacentCmpFunc[bollard/dir.Entry]", by decide, Tryz.func299.trans (congrArg some (by kernel_rfl))⟩
 f50 := ⟨ "slices.medianCmpFunc[bollard/dir.Entry]", by decide, Tryz.func300.trans (congrArg some (by kernel_rfl))⟩
 f57 := ⟨ "slices.order2CmpFunc[bollard/dir.Entry]", by decide, Tryz.func313.trans (congrArg some (by kernel_rfl))⟩
 t0:=Tryz.underlying0
 a0:=Tryz.isAgg0
 z0:=Tryz.sizeOf0
 v0:=Tryz.zeroValue0
 t3:=Tryz.underlying3
 a3:=Tryz.isAgg3
 z3:=Tryz.sizeOf3
 v3:=Tryz.zeroValue3
 t4:=Tryz.underlying4
 a4:=Tryz.isAgg4
 z4:=Tryz.sizeOf4
 v4:=Tryz.zeroValue4
 t5:=Tryz.underlying5
 a5:=Tryz.isAgg5
 z5:=Tryz.sizeOf5
 v5:=Tryz.zeroValue5
 t9:=Tryz.underlying9
 a9:=Tryz.isAgg9
 z9:=Tryz.sizeOf9
 v9:=Tryz.zeroValue9
 t22:=Tryz.underlying162
 a22:=Tryz.isAgg162
 z22:=Tryz.sizeOf162
 v22:=Tryz.zeroValue162
 t25:=Tryz.underlying265
 a25:=Tryz.isAgg265
 z25:=Tryz.sizeOf265
 v25:=Tryz.zeroValue265
 t39:=Tryz.underlying251
 a39:=Tryz.isAgg251
 z39:=Tryz.sizeOf251
 v39:=Tryz.zeroValue251
 t45:=Tryz.underlying335
 a45:=Tryz.isAgg335
 z45:=Tryz.sizeOf335
 v45:=Tryz.zeroValue335
 t46:=Tryz.underlying336
 a46:=Tryz.isAgg336
 z46:=Tryz.sizeOf336
 v46:=Tryz.zeroValue336
 t50:=Tryz.underlying102
 a50:=Tryz.isAgg102
 z50:=Tryz.sizeOf102
 v50:=Tryz.zeroValue102
 t53:=Tryz.underlying202
 a53:=Tryz.isAgg202
 z53:=Tryz.sizeOf202
 v53:=Tryz.zeroValue202
 t55:=Tryz.underlying104
 a55:=Tryz.isAgg104
 z55:=Tryz.sizeOf104
 v55:=Tryz.zeroValue104
 t66:=Tryz.underlying357
 a66:=Tryz.isAgg357
 z66:=Tryz.sizeOf357
 v66:=Tryz.zeroValue357
 t70:=Tryz.underlying190
 a70:=Tryz.isAgg190
 z70:=Tryz.sizeOf190
 v70:=Tryz.zeroValue190
 t76:=Tryz.underlying366
 a76:=Tryz.isAgg366
 z76:=Tryz.sizeOf366
 v76:=Tryz.zeroValue366
 t77:=Tryz.underlying293
 a77:=Tryz.isAgg293
 z77:=Tryz.sizeOf293
 v77:=Tryz.zeroValue293
abbrev Ent :=aa×Nat
def entL (x:Ent):List Value:=[sv x.1,nI x.2]
theorem Mx {b el:Nat} {xs:List Value}:Reads (row b el xs) (some ⟨b,0,none⟩) xs:=by
 unfold row
 exact Reads.pt
theorem bdEnt (s:ByteArray) (i:Int):av Tryz.prog 166 [(0,.string s),(1,.int .i64 i)] #[.string s,.int .i64 i]:=fun w=>by kernel_rfl
theorem bsEnt (s:ByteArray) (i:Int):bc Tryz.prog 162 1 [(0,.agg #[.string s,.int .i64 i])] 166 #[.string s,.int .i64 i]:=fun w=>by kernel_rfl
theorem nanS (s:ByteArray) (w:World):Calls Tryz.prog 236 #[.string s] w fun e w'=>e=.returned (.bool false)/\w'=w:=by
 go_enter Tryz.func236,Tryz.ntmps236
 go_wp2
 go_ret
 exact ⟨by simp,rfl⟩
theorem cmpS (x y:aa) (w:World):Calls Tryz.prog 179 #[sv x,sv y] w fun e w'=>e=.returned (.int .i64 (cmpT x y))/\w'=w:=by
 show Calls Tryz.prog 179 #[.string (bstr x),.string (bstr y)] w _
 have hn:=fun s W=>nanS s W
 have h1:Op.bytesLess (bstr x).toList (bstr y).toList=decide (x < y):=by rw [bytesLess_eq,ByteArray.toList_eq,ByteArray.toList_eq];rfl
 have h2:((bstr x).toList==(bstr y).toList)=decide (x=y):=by rw [ByteArray.toList_eq,ByteArray.toList_eq];show (x==y)=_;by_cases h:x=y<;>simp [h]
 go_enter Tryz.func179,Tryz.ntmps179
 go_wp2_with (go_at_call 236;refine (hn _ _).mono ?_;rintro e w' ⟨rfl,rfl⟩)
 all_goals (go_ret;refine ⟨?_,rfl⟩;unfold cmpT;simp_all)
theorem Ty (x y:Ent) (W:World):Calls Tryz.prog 178 #[.agg (entL x).toArray,.agg (entL y).toArray] W fun e w'=>e=.returned (.int .i64 (cmpT x.1 y.1))/\∃ q os',w'=grow (W.drewN q) os':=by
 have hcon:=fun W'=>cmpS x.1 y.1 W'
 show Calls Tryz.prog 178 #[.agg #[.string (bstr x.1),.int .i64 x.2],.agg #[.string (bstr y.1),.int .i64 y.2]] W _
 change ∀ W',Calls Tryz.prog 179 #[.string (bstr x.1),.string (bstr y.1)] W' _ at hcon
 generalize cmpT x.1 y.1=r at hcon ⊢
 go_enter Tryz.func178,Tryz.ntmps178
 go_wp2_with (go_at_call 179;refine (hcon _).mono ?_;rintro e w' ⟨rfl,rfl⟩)
 go_ret
 exact ⟨rfl,0,_,by rw [alloc_eq_grow,alloc_eq_grow,grow_grow];rfl⟩
theorem jy (x:Ent):(entL x).length=2:=rfl
theorem My (x:Ent):∀ v∈entL x,v.oneCell'=true:=by
 intro v hv
 unfold entL at hv
 simp only [List.mem_cons,List.not_mem_nil,or_false] at hv
 rcases hv with rfl | rfl<;>rfl
theorem Mz {v:Value} {l:List Ent} (hl:l.length < 4611686018427387904):Spec Tryz.prog 177 #[v,.func (.func 178) #[] #[]] [rowR 166 2 v l.length (l.flatMap entL)] fun F u M=>∃ l':List Ent,(l'.Perm l/\l'.Pairwise fun a b=>¬ b.1 < a.1)/\M=rowR 166 2 v l.length (l'.flatMap entL) :: F:=by
 intro B F w hs
 have hsh:=Sat.ownsRow hs
 rcases hsh.2 with ⟨rfl,h0⟩ | ⟨g,cap,cur,rfl,_,_⟩
 ·obtain rfl:l=[]:=List.eq_nil_of_length_eq_zero h0
  have:=AnyF.slices_SortFunc_none (P:=Tryz.prog) Ot none 0 (.func (.func 178) #[] #[]) w
  change Calls Tryz.prog 177 _ _ _ at this
  refine this.mono ?_
  rintro e w' ⟨rfl,rfl⟩
  exact ⟨_,_,rfl,⟨[],⟨List.Perm.refl _,List.Pairwise.nil⟩,rfl⟩,hs⟩
 ·obtain ⟨hH,hg⟩:=Sat.holdsK jy hs
  have hcon:=AnyQ.slices_SortFunc (P:=Tryz.prog) Ot 2 Tryz.isAgg166 Tryz.sizeOf166 entL jy My (fun x y:Ent=>cmpT x.1 y.1) (swoT fun x:Ent=>x.1) 178 #[] g 0 cap l.toArray w (enters_of Tryz.func178 (by kernel_rfl) rfl) (fun _ _ _ _ x y=>Ty x y _) hH hg (by simpa using hl)
  change Calls Tryz.prog 177 #[.slice (some ⟨g,0,none⟩) l.length cap,_] _ _ at hcon
  refine hcon.mono ?_
  rintro e w' ⟨rfl,d',q,os,hp,hso,rfl⟩
  obtain ⟨hsz,_,hperm⟩:=hp
  have hsz':d'.size=l.length:=by simpa using hsz
  have hperm':d'.toList.Perm l:=by
   have e1:(d'.extract 0 l.toArray.size)=d':=by rw [<- hsz];simp
   have e2:(l.toArray.extract 0 l.toArray.size)=l.toArray:=by simp
   rw [e1,e2] at hperm
   exact hperm
  refine ⟨_,_,rfl,⟨d'.toList,⟨hperm',?_⟩,rfl⟩,?_⟩
  ·rw [List.pairwise_iff_getElem]
   intro i j hi hj hij
   have h1:=hso i j (Nat.zero_le _) hij (by simpa [hsz'] using hj)
   have hi':i < d'.size:=by simpa using hi
   have hj':j < d'.size:=by simpa using hj
   rw [getElem!_pos d' i hi',getElem!_pos d' j hj'] at h1
   have h2:decide (cmpT d'[j].1 d'[i].1 < 0)=false:=h1
   rw [w2] at h2
   simpa using of_decide_eq_false h2
  ·have:=Sat.sortedK (B:=B) (q:=q) (os:=os) (l':=d'.toList) jy (by simpa using hsz') hs
   simpa using this
def Bq (k v:Value):Ent:=(match k with
 | .agg ks=>(((ks.toList.map fun x=>match x with
  | .int _ n=>UInt8.ofNat n.toNat
  | _=>0).drop 1).take (match ks.toList.head? with
  | some (.int _ n)=>n.toNat
  | _=>0))
 | _=>[],match v with
 | .agg xs=>(match xs.toList.drop 1 with
  | .int _ n :: _=>n.toNat
  | _=>0)
 | _=>0)
theorem De {nm:aa} (h:nm.length<=50) (q i:Nat):Bq (encK (keyK nm)) (jf (64 * q) i)=(nm,i):=by
 have h1:((bvs (keyB nm)).map fun x=>match x with
  | .int _ n=>UInt8.ofNat n.toNat
  | _=>0)=keyB nm:=by
  unfold bvs
  rw [List.map_map]
  apply List.ext_getElem?
  intro j
  rw [List.getElem?_map]
  cases (keyB nm)[j]? with
  | none=>rfl
  | some b=>simp [bv]
 have h3:(keyB nm).drop 1=(nm++List.replicate 50 0).take 50:=by unfold keyB;rw [List.take_succ_cons];rfl
 have h4:(UInt8.ofNat nm.length).toNat=nm.length:=by rw [UInt8.toNat_ofNat'];omega
 have h2:(bvs (keyB nm)).head?=some (.int .u8 ((nm.length:Nat):Int)):=by
  rw [List.head?_eq_getElem?]
  unfold bvs
  rw [List.getElem?_map,n9]
  show some (bv (UInt8.ofNat nm.length))=_
  unfold bv
  rw [h4]
 unfold Bq encK keyK jf
 simp only [h1,h2,h3]
 refine Prod.ext ?_ ?_
 ·show ((nm++List.replicate 50 0).take 50).take ((nm.length:Nat):Int).toNat=nm
  rw [List.take_take,Int.toNat_natCast,Nat.min_eq_left h,List.take_append_of_le_length (Nat.le_refl _),List.take_length]
 ·show ((i:Nat):Int).toNat=i
  exact Int.toNat_natCast i
def oc (sl:List Slot):List Ent:=sl.filterMap id
theorem xl {sl:List Slot} (hd:DirOk sl):∀ m,m<=sl.length->((kvF sl m).map fun p=>Bq (encK p.1) p.2)=oc (sl.take m)
 | 0,_=>rfl
 | m+1,hm=>by
  have ih:=xl hd m (by omega)
  have hlt:m < sl.length:=by omega
  have hs:sl[m]?=some sl[m]:=List.getElem?_eq_getElem hlt
  have ht:sl.take (m+1)=sl.take m++[sl[m]]:=List.take_succ_eq_append_getElem hlt
  have he:oc (sl.take (m+1))=oc (sl.take m)++oc [sl[m]]:=by unfold oc;rw [ht,List.filterMap_append]
  rw [kvF,hs,he]
  obtain ⟨x,hx⟩:∃ x,sl[m]=x:=⟨_,rfl⟩
  rw [hx] at hs ⊢
  cases x with
  | none=>show ((kvF sl m).map _)=_;rw [ih];simp [oc]
  | some x =>
   obtain ⟨nm,i⟩:=x
   have hnm:=hd.nm _ _ _ hs
   have hno:kget (kvF sl m) (keyK nm)=none:=by
    have key:∀ k,k<=m->kget (kvF sl k) (keyK nm)=none:=by
     intro k
     induction k with
     | zero=>intro _;rfl
     | succ k ih2 =>
      intro hk
      have ih2:=ih2 (by omega)
      rw [kvF]
      cases hsk:sl[k]? with
      | none=>exact ih2
      | some y =>
       cases y with
       | none=>exact ih2
       | some y =>
        obtain ⟨n',i'⟩:=y
        show kget (kput (kvF sl k) (keyK n') (jf (64 * k) i')) (keyK nm)=none
        rw [cj,if_neg,ih2]
        intro hkk
        have:=xj hnm.1.2 (hd.nm _ _ _ hsk).1.2 hkk
        subst this
        have:=hd.one _ _ _ _ _ hs hsk
        omega
    exact key m (Nat.le_refl _)
   show ((kput (kvF sl m) (keyK nm) (jf (64 * m) i)).map _)=_
   rw [Li hno,List.map_append,ih]
   show _++[Bq (encK (keyK nm)) (jf (64 * m) i)]=_
   rw [De hnm.1.2]
   rfl
theorem xm {sl:List Slot} (hd:DirOk sl) {k:K51} {v:Value}:∀ m,m<=sl.length->(k,v)∈kvF sl m->∃ nm q i,k=keyK nm/\v=jf (64 * q) i/\nm.length<=50/\1<=nm.length/\i < 4294967296
 | 0,_,h=>by cases h
 | m+1,hm,h=>by
  rw [kvF] at h
  have hlt:m < sl.length:=by omega
  rw [List.getElem?_eq_getElem hlt] at h
  have hs:sl[m]?=some sl[m]:=List.getElem?_eq_getElem hlt
  obtain ⟨x,hx⟩:∃ x,sl[m]=x:=⟨_,rfl⟩
  rw [hx] at h hs
  cases x with
  | none=>exact xm hd m (by omega) h
  | some x =>
   obtain ⟨nm,i⟩:=x
   have hnm:=hd.nm _ _ _ hs
   have h:(k,v)∈kput (kvF sl m) (keyK nm) (jf (64 * m) i):=h
   by_cases hk:k=keyK nm
   ·have h2:=xk h hk
    rcases h2 with h2 | h2
    ·exact ⟨nm,m,i,hk,h2,hnm.1.2,hnm.1.1,hnm.2⟩
    ·exact xm hd m (by omega) h2
   ·exact xm hd m (by omega) (ut h hk)
theorem qm {sl:List Slot}:(oc sl).length<=sl.length:=List.length_filterMap_le ..
theorem entsS_mem {sl:List Slot} {nm:aa} {i:Nat}:(nm,i)∈oc sl ↔ ∃ q:Nat,sl[q]?=some (some (nm,i)):=by
 unfold oc
 rw [List.mem_filterMap]
 constructor
 ·rintro ⟨a,ha,h⟩
  have h:a=some (nm,i):=h
  subst h
  obtain ⟨q,hq,h⟩:=List.mem_iff_getElem.1 ha
  exact ⟨q,by rw [List.getElem?_eq_getElem hq,h]⟩
 ·rintro ⟨q,h⟩
  exact ⟨_,List.mem_of_getElem? h,rfl⟩
theorem dText {nm:aa} (hn:nm.length<=50):Spec Tryz.prog 176 #[arrV (keyB nm)] [] fun F v M=>v=sv nm/\M=F:=by
 refine Spec.intro Tryz.func176 rfl rfl fun B F=>?_
 simp only [Tryz.ntmps176,List.cons_append,List.nil_append,env0,Nat.reduceAdd]
 have hk:=e7 nm
 have h4:(UInt8.ofNat nm.length).toNat=nm.length:=by rw [UInt8.toNat_ofNat'];omega
 have hx0:(bvs (keyB nm))[0]?=some (.int .u8 (nm.length:Int)):=by
  unfold bvs
  rw [List.getElem?_map,n9]
  show some (bv (UInt8.ofNat nm.length))=_
  unfold bv
  rw [h4]
 have h3:((bvs (keyB nm)).drop 1).take nm.length=bvs nm:=by
  rw [<- ei,<-ck]
  have e:(keyB nm).drop 1=(nm++List.replicate 50 0).take 50:=by unfold keyB;rw [List.take_succ_cons];rfl
  rw [e,List.take_take,Nat.min_eq_left hn,List.take_append_of_le_length (Nat.le_refl _),List.take_length]
 refine .sr ?_
 refine .boxL (us:=bvs (keyB nm)) fun b1=>?_
 refine .assign (.x ?_)
 refine .idxA ?_ Iq
 refine .ldL (xs:=bvs (keyB nm)) (i:=0) (v:=.int .u8 (nm.length:Int)) ?_ sc5 hx0
 refine .addw ?_
 refine .cast (d:=5) (u:=.int .u8 ((1:Int)+(nm.length:Int))) rfl (cI9 (IntWalk.u8_in _ (by omega))) ?_
 refine .slcArrLH ?_ Iq
 refine .cvtBS (xs:=nm) (R:=row b1 260 (bvs (keyB nm))) ?_ by79 st9 (by rw [<- h3];exact ((Mx (b:=b1) (el:=260) (xs:=bvs (keyB nm))).drop 1).take nm.length) (by show nm.length=(1+(nm.length:Int)).toNat - (1:Int).toNat;omega)
 refine .assign (.z (.ret (?_)))
 exact .ret1 (h1:=.tmp (t:=2) rfl) ⟨_,⟨rfl,rfl⟩,Am.auto⟩
structure ListI (es:Array MapEntry) (seen:Array Nat) (acc:List MapEntry):Prop where
 perm:(acc++left es seen).Perm es.toList
theorem ListI.start (es:Array MapEntry):ListI es #[] []:=⟨by rw [Lh];exact List.Perm.refl _⟩
theorem ListI.step {es:Array MapEntry} {seen:Array Nat} {acc:List MapEntry} (hp:(es.toList.map (·.born)).Pairwise (· < ·)) (h:ListI es seen acc) {m:MapEntry} (hm:m∈left es seen):ListI es (seen.push m.born) (acc++[m]):=by
 refine ⟨?_⟩
 rw [List.append_assoc]
 exact ((Gu hp hm).symm.append_left acc).trans h.perm
theorem ListI.few {es:Array MapEntry} {seen:Array Nat} {acc:List MapEntry} (h:ListI es seen acc):acc.length<=es.size:=by
 have:=h.perm.length_eq
 rw [List.length_append,Array.length_toList] at this
 exact Nat.le_trans (Nat.le_add_right _ _) (Nat.le_of_eq this)
def entM (m:MapEntry):Ent:=Bq m.key m.val
theorem dList {s a c:Nat} {p:Pl} {F0 Fm:FM} {W d:Nat} {op:Bool} {sl:List Slot} (ho:PlOk p) (hF:Fm d=some (2,dirB sl)) (hd:DirOk sl) (hsz:sl.length<=1104) :
  Spec Tryz.prog 108 #[.pointer (some ⟨s,0,none⟩),nI d] [IN s a c p F0 Fm W op] fun G v M=>∃ u l,v=.tuple #[u,.int .i64 0]/\((l:List Ent).Perm (oc sl)/\l.Pairwise fun x y=>¬ y.1 < x.1)/\M=rowR 166 2 u l.length (l.flatMap entL) :: IN s a c p F0 Fm W op :: G:=by
 refine Spec.intro Tryz.func108 rfl rfl fun B F=>?_
 simp only [Tryz.ntmps108,List.cons_append,List.nil_append,env0,Nat.reduceAdd]
 refine .sr (.assign (.assign (.x (.move (.move ?_)))))
 refine .call (hc:=Tryz.call175) (sp:=Dc (s:=s) (a:=a) (c:=c) (p:=p) (F0:=F0) (Fm:=Fm) (W:=W) (d:=d) (op:=op) ho hF hd hsz) (h:=?_)
 rintro _ _ ⟨mp,es,cl,rfl,hm,rfl⟩
 refine .move ?_
 refine .extract (.extract (.extract ?_))
 refine .assign (.assign (.assign (.z (.seq (.sr (.move ?_))))))
 refine .nei (.z ?_)
 refine .condF rfl rfl ?_
 refine .skip (.next (.sr (.assign ?_)))
 refine .emp (rowR.nil (e:=166) (size:=2) _) ?_
 refine .z (.seq (.sr (.move ?_)))
 have hkl:(kvF sl sl.length).length<=1104:=by
  have h1:=congrArg List.length (xl hd sl.length (Nat.le_refl _))
  rw [List.length_map,List.take_length] at h1
  have h2:=qm (sl:=sl)
  omega
 have hes:es.size<=1104:=by have:=hm.length;omega
 refine .range Is fun it=>?_
 refine .z (.block ?_)
 refine .loopA (σ:=Array Nat×Value×List MapEntry) (fun y=>[(9,y.2.1),(23,.pointer (some ⟨it,0,none⟩))]) (fun y=>[pt it (.mapIter (some mp) cl y.1 cl),rowR 166 2 y.2.1 (y.2.2.map entM).length ((y.2.2.map entM).flatMap entL),pt mp (.map es cl),IN s a c p F0 Fm W op]++F) (fun y=>ListI es y.1 y.2.2) (fun y=>(left es y.1).length) (#[],.slice none 0 0,[]) (ListI.start es) ?_
 rintro ⟨seen,u,acc⟩ hi
 refine .sr ?_
 refine .next hm.lt (fun h0=>?_) (fun m hmm=>?_)
 ·have hpm:(acc.map entM).Perm (oc sl):=by
   have h1:=hi.perm
   rw [h0,List.append_nil] at h1
   have h2:=h1.map entM
   rw [show es.toList.map entM=(kvF sl sl.length).map (fun p=>Bq (encK p.1) p.2) from hm.mapped Bq,xl hd sl.length (Nat.le_refl _),List.take_length] at h2
   exact h2
  have hfew:acc.length<=es.size:=hi.few
  refine .extract (.z (.seq ?_))
  refine .condF rfl rfl ?_
  refine .exit (.thenExit (.thenExit (.blockExit (?_))))
  refine .next (.sr (.move ?_))
  refine .call (hc:=Tryz.call177) (sp:=Mz (v:=u) (l:=acc.map entM) (by show (acc.map entM).length < _;rw [List.length_map];omega)) (h:=?_)
  rintro _ _ ⟨l',⟨hp',hs'⟩,rfl⟩
  refine .x (.move (.assign (.assign (.z (.ret (?_))))))
  rw [<- hp'.length_eq]
  exact .ret2 (h1:=.tmp (t:=4) rfl) (h2:=.tmp (t:=5) rfl) ⟨_,⟨u,l',rfl,⟨hp'.trans hpm,hs'⟩,rfl⟩,Am.auto⟩
 ·have hme:=(List.mem_filter.1 hmm).1
  obtain ⟨k,hk,hkv⟩:=hm.entry hme
  obtain ⟨nm,q,i,rfl,hv,hn1,hn2,hi3⟩:=xm hd sl.length (Nat.le_refl _) ((fh hm.nodup).1 hkv)
  have hem:entM m=(nm,i):=by unfold entM;rw [hk,hv];exact De hn1 q i
  have hfew:=(hi.step hm.born hmm).few
  rw [List.length_append] at hfew
  simp only [List.length_cons,List.length_nil] at hfew
  have hal:(acc.map entM).length=acc.length:=List.length_map ..
  refine .extract (.z (.seq ?_))
  refine .condT rfl rfl ?_
  refine .skip (.next (.block (.sr ?_)))
  refine .entry hme hm.born ?_
  refine .extract ?_
  refine .cast (d:=27) (u:=arrV (keyB nm)) rfl hk ?_
  refine .extract ?_
  refine .cast (d:=28) (u:=.agg #[nI (64 * q),nI i]) rfl hv ?_
  refine .allocL (us:=bvs (List.replicate 51 0)) key0 rfl fun b10=>?_
  refine .alloc z262 fun b11=>?_
  refine .stLA (xs:=bvs (List.replicate 51 0)) (us:=bvs (keyB nm)) ?_ oa (ci nm) rfl (nf nm)
  refine .stV ?_ Dd
  refine .z ?_
  refine .dr ([row b10 260 (bvs (keyB nm)),pt b11 (.cells #[nI (64 * q),nI i] 262 (0,0))]) [] 9 mixed .autoJ ?_
  refine .tk 0 rfl .move ?_
  refine .tk 1 rfl (Qt.ldW (xs:=bvs (keyB nm)) oa (ci nm)) ?_
  refine .tk 3 rfl (.fa Iu) ?_
  refine .tk 4 rfl (.ld sc3) ?_
  refine .on 2 rfl fun hnp=>?_
  refine .call (hc:=Tryz.call176) (sp:=dText hn1) (h:=?_)
  rintro _ _ ⟨rfl,rfl⟩
  refine .nil (.wa hnp ?_)
  refine .tk 5 rfl (.build (bdEnt _ _)) ?_
  refine .on 6 rfl fun hnp=>?_
  refine .buildS (fun b35=>?_) (bsEnt _ _)
  refine .nil (.wa hnp ?_)
  refine .on 7 rfl fun hnp=>?_
  refine .append (m:=1) Tx (by decide) (by repeat (first | exact .here | apply Rem.there | apply Repl.there | apply Mem.there)) Reads.pt (by repeat (first | exact .here | apply Rem.there | apply Repl.there | apply Mem.there)) rfl (by intro x hx;simp only [List.mem_cons,List.not_mem_nil,or_false] at hx;rcases hx with rfl | rfl<;>rfl) (by show (acc.map entM).length+1<=maxLen;unfold maxLen;omega) (by show ((acc.map entM).length+1) * _<=_;omega) ⟨_,z166,rfl⟩ (fun u2 hu2=>?_)
  refine .nil (.wa hnp ?_)
  refine .tk 8 rfl .assign ?_
  refine .fin ?_
  refine .blockNormal ?_
  refine .to (A:=rowR 166 2 u2 ((acc.map entM).length+1) ((acc.map entM).flatMap entL++entL (nm,i))) (A':=rowR 166 2 u2 ((acc++[m]).map entM).length (((acc++[m]).map entM).flatMap entL)) (fun h hh=>by
   rw [List.map_append,List.map_cons,List.map_nil,hem,List.length_append,List.flatMap_append]
   simp only [List.flatMap_cons,List.flatMap_nil,List.append_nil]
   exact hh) ?_
  exact .back (seen.push m.born,u2,acc++[m]) (hi.step hm.born hmm) (yp hmm)
end Go.Proofs.YtmihjfcbofejoaaGreatDoor
end
section
namespace Go.Proofs.YtmihjfcbofejoaaGreatDoor
open Go
inductive NodeT
 | file (b:aa)
 | dir (sl:List Slot)
def NodeT.f :NodeT->Nat×aa
 | .file b=>(1,b)
 | .dir sl=>(2,dirB sl)
abbrev FT :=Nat->Option NodeT
def fmT (T:FT):FM:=fun i=>(T i).map NodeT.f
theorem ep {T:FT} {i:Nat} {x:NodeT} (h:T i=some x):fmT T i=some x.f:=by unfold fmT;rw [h];rfl
theorem l5 {T:FT} {i:Nat} (h:T i=none):fmT T i=none:=by unfold fmT;rw [h];rfl
def updT (T:FT) (i:Nat) (y:Option NodeT):FT:=fun j=>if j=i then y else T j
theorem Iw (T:FT) (i:Nat) (y:Option NodeT):updT T i y i=y:=if_pos rfl
theorem e9 (T:FT) {i j:Nat} (y:Option NodeT) (h:j≠i):updT T i y j=T j:=if_neg h
theorem Q4 (T:FT) (i:Nat) (y:Option NodeT):updM (fmT T) i (y.map NodeT.f)=fmT (updT T i y):=by
 funext j
 unfold updM fmT updT
 by_cases h:j=i
 ·rw [if_pos h,if_pos h]
 ·rw [if_neg h,if_neg h]
theorem iq (T:FT) (i:Nat) (x:NodeT):updM (fmT T) i (some x.f)=fmT (updT T i (some x)):=Q4 T i (some x)
def TOk (T:FT):Prop:=∀ d sl,T d=some (.dir sl)->DirOk sl/\sl.length<=1000
def jz (nm:aa):List Slot->Option (Nat×Nat)
 | []=>none
 | some (n,i) :: r=>if n=nm then some (0,i) else (jz nm r).map fun x=>(x.1+1,x.2)
 | none :: r=>(jz nm r).map fun x=>(x.1+1,x.2)
theorem jg {nm:aa}:∀ {sl:List Slot} {q i:Nat},jz nm sl=some (q,i)->sl[q]?=some (some (nm,i))
 | some (n,j) :: r,q,i,h=>by
  unfold jz at h
  split at h
  ·rename_i hn
   subst hn
   injection h with h
   injection h with h1 h2
   subst h1;subst h2
   rfl
  ·obtain ⟨x,hx,h⟩:=Option.map_eq_some_iff.1 h
   injection h with h1 h2
   subst h1;subst h2
   rw [List.getElem?_cons_succ]
   exact jg hx
 | none :: r,q,i,h=>by
  unfold jz at h
  obtain ⟨x,hx,h⟩:=Option.map_eq_some_iff.1 h
  injection h with h1 h2
  subst h1;subst h2
  rw [List.getElem?_cons_succ]
  exact jg hx
theorem jh {nm:aa}:∀ {sl:List Slot},jz nm sl=none->∀ (q i:Nat),sl[q]?≠some (some (nm,i))
 | [],_,q,i=>by simp
 | some (n,j) :: r,h,q,i=>by
  unfold jz at h
  split at h
  ·cases h
  ·rename_i hn
   cases q with
   | zero=>intro h2;injection h2 with h2;injection h2 with h2;injection h2 with h2 _;exact hn h2
   | succ q =>
    rw [List.getElem?_cons_succ]
    exact jh (Option.map_eq_none_iff.1 h) q i
 | none :: r,h,q,i=>by
  unfold jz at h
  cases q with
  | zero=>intro h2;injection h2 with h2;cases h2
  | succ q =>
   rw [List.getElem?_cons_succ]
   exact jh (Option.map_eq_none_iff.1 h) q i
theorem Df {nm:aa} {sl:List Slot} (hd:DirOk sl) {q i:Nat} (h:sl[q]?=some (some (nm,i))):jz nm sl=some (q,i):=by
 cases hl:jz nm sl with
 | none=>exact absurd h (jh hl q i)
 | some x =>
  obtain ⟨r,j⟩:=x
  have h2:=jg hl
  have:=hd.one _ _ _ _ _ h h2
  subst this
  rw [h] at h2
  injection h2 with h2
  injection h2 with h2
  injection h2 with _ h2
  rw [h2]
def d7 (T:FT) (d:Nat) (nm:aa):Nat×Nat :=
 if am nm then
  match T d with
  | none=>(0,4)
  | some (.file _)=>(0,6)
  | some (.dir sl)=>match jz nm sl with
   | some (_,i)=>(i,0)
   | none=>(0,4)
 else (0,1)
theorem M0 {T:FT} {d i:Nat} {nm:aa} (h:d7 T d nm=(i,0)):am nm=true/\∃ sl q,T d=some (.dir sl)/\jz nm sl=some (q,i):=by
 unfold d7 at h
 split at h
 ·rename_i hn
  refine ⟨hn,?_⟩
  split at h
  ·cases h
  ·cases h
  ·rename_i sl hT
   split at h
   ·rename_i q j hl
    injection h with h _
    subst h
    exact ⟨sl,q,hT,hl⟩
   ·cases h
 ·cases h
theorem Ix {T:FT} {d i e:Nat} {nm:aa} (h:d7 T d nm=(i,e)) (he:e≠0):i=0/\(Bp nm (fmT T) (d:Int) (e:Int) ∨ (am nm=true/\e=4/\∃ sl,T d=some (.dir sl)/\jz nm sl=none)):=by
 unfold d7 at h
 split at h
 ·rename_i hn
  split at h
  ·rename_i hT
   injection h with h1 h2
   subst h1;subst h2
   exact ⟨rfl,.inl (.inr (.inl ⟨hn,by rw [vi];exact l5 hT,rfl⟩))⟩
  ·rename_i b hT
   injection h with h1 h2
   subst h1;subst h2
   exact ⟨rfl,.inl (.inr (.inr ⟨hn,⟨1,b,by omega,by rw [Int.toNat_natCast];exact ep hT,by decide⟩,rfl⟩))⟩
  ·rename_i sl hT
   split at h
   ·injection h with _ h
    exact absurd h.symm he
   ·rename_i hl
    injection h with h1 h2
    subst h1;subst h2
    exact ⟨rfl,.inr ⟨hn,rfl,sl,hT,hl⟩⟩
 ·rename_i hn
  injection h with h1 h2
  subst h1;subst h2
  exact ⟨rfl,.inl (.inl ⟨by simpa using hn,rfl⟩)⟩
def de (T:FT):Nat->List aa->Nat×Nat
 | d,[]=>(d,0)
 | d,nm :: r=>if (d7 T d nm).2=0 then de T (d7 T d nm).1 r else (0,(d7 T d nm).2)
def aj :aa->List aa
 | []=>[[]]
 | x :: xs=>if x=47 then [] :: aj xs else match aj xs with
  | []=>[[x]]
  | y :: ys=>(x :: y) :: ys
theorem E8 (xs:aa):aj xs≠[]:=by
 cases xs with
 | nil=>simp [aj]
 | cons x xs =>
  unfold aj
  split
  ·simp
  ·split<;>simp
def ew (path:aa):Option (List aa) :=
 match path with
 | []=>none
 | x :: rest=>if x=47 then (if rest=[] then some [] else if 8 < (aj rest).length then none else if (aj rest).all am then some (aj rest) else none) else none
def dx (T:FT) (path:aa):Nat×aa×Nat :=
 match ew path with
 | none=>(0,[],1)
 | some l=>if l=[] then (0,[],1) else if (de T 0 l.dropLast).2=0 then (match T (de T 0 l.dropLast).1 with
  | some (.dir _)=>((de T 0 l.dropLast).1,l.getLastD [],0)
  | _=>(0,[],6)) else (0,[],(de T 0 l.dropLast).2)
def NodeT.size :NodeT->Nat
 | .file b=>b.length
 | .dir sl=>64 * sl.length
def NodeT.kind :NodeT->Nat
 | .file _=>1
 | .dir _=>2
theorem NodeT.f_kind (x:NodeT):x.f.1=x.kind:=by cases x<;>rfl
theorem NodeT.f_size (x:NodeT):x.f.2.length=x.size:=by
 cases x with
 | file b=>rfl
 | dir sl=>exact cg sl
def fp (T:FT) (path:aa):Nat×Nat×Nat×Nat :=
 match ew path with
 | none=>(0,0,0,1)
 | some l=>if (de T 0 l).2=0 then (match T (de T 0 l).1 with
  | some x=>((de T 0 l).1,x.kind,x.size,0)
  | none=>((de T 0 l).1,0,0,4)) else (0,0,0,(de T 0 l).2)
def qy (T:FT) (path:aa):Nat×Nat×Nat×Nat :=
 if (fp T path).2.2.2=0/\(fp T path).2.1≠1 then (0,0,0,6) else fp T path
def d8 :FT:=fun i=>if i=0 then some (.dir []) else none
theorem xn :fmT d8=qw:=by
 funext i
 unfold fmT d8 qw
 by_cases h:i=0
 ·rw [if_pos h,if_pos h];rfl
 ·rw [if_neg h,if_neg h];rfl
theorem M1 :TOk d8:=by
 intro d sl h
 unfold d8 at h
 split at h
 ·injection h with h;injection h with h;subst h;exact ⟨DirOk.nil,Nat.zero_le _⟩
 ·cases h
theorem so62 :ar Tryz.prog 62 9 1 16=true:=by kernel_rfl
theorem sc9 :ai Tryz.prog 9=true:=by kernel_rfl
theorem z9 :ba Tryz.prog 9=some (#[.string ⟨#[]⟩]):=by kernel_rfl
theorem sl62 :Tryz.prog.underlying 62=some (.slice 9):=by kernel_rfl
theorem Tz (xs:aa) (c:Int) (w:World):(callFunc 311 #[sv xs,.int .u8 c]).run Tryz.prog w=.ok (.value (.int .i64 (Lib.countByte xs c.toNat.toUInt8))) w:=by
 rw [run_callFunc_extern Tryz.func311 (by kernel_rfl) (by kernel_rfl) (by kernel_rfl) (e:=Extern.BytealgCount.count) (by kernel_rfl),ex,Lib.run_countString]
 rfl
theorem ng (xs:aa):(aj xs).length=Lib.countByte xs 47+1:=by
 unfold Lib.countByte
 induction xs with
 | nil=>rfl
 | cons x xs ih =>
  unfold aj
  by_cases h:x=47
  ·subst h
   rw [if_pos rfl,List.length_cons,ih,List.count_cons_self]
  ·rw [if_neg h,List.count_cons_of_ne (by simpa using h)]
   cases hs:aj xs with
   | nil=>exact absurd hs (E8 xs)
   | cons y ys=>rw [hs] at ih;simpa using ih
theorem lp {xs:aa} (h:∀ k:Nat,xs[k]?≠some 47):aj xs=[xs]:=by
 induction xs with
 | nil=>rfl
 | cons x xs ih =>
  have hx:x≠47:=fun hx=>h 0 (by rw [hx];rfl)
  have ih:=ih (fun k=>by have:=h (k+1);simpa using this)
  unfold aj
  rw [if_neg hx,ih]
theorem zm {xs:aa}:∀ {m:Nat},xs[m]?=some 47->(∀ k:Nat,k < m->xs[k]?≠some 47)->aj xs=xs.take m :: aj (xs.drop (m+1)):=by
 induction xs with
 | nil=>intro m h;simp at h
 | cons x xs ih =>
  intro m h hb
  cases m with
  | zero =>
   have hx:x=47:=by simpa using h
   rw [aj,if_pos hx];rfl
  | succ m =>
   have hx:x≠47:=fun hx=>hb 0 (by omega) (by rw [hx];rfl)
   have ih:=ih (m:=m) (by simpa using h) (fun k hk=>by have:=hb (k+1) (by omega);simpa using this)
   rw [aj,if_neg hx,ih]
   rfl
theorem Ou {xs ps:aa}:Spec Tryz.prog 275 #[sv xs,sv ps] [] fun F v M=>v=.bool (decide (xs.take ps.length=ps))/\M=F:=by
 refine Spec.intro Tryz.func275 rfl rfl fun B F=>?_
 simp only [Tryz.ntmps275,List.cons_append,List.nil_append,env0,Nat.reduceAdd]
 by_cases hl:ps.length<=xs.length
 ·refine .sr (.assign (.x (.move ?_)))
  refine .lenT _ ?_ st9
  refine .move ?_
  refine .lenT _ ?_ st9
  refine .geq ?_
  refine .cast (d:=9) (u:=.bool true) rfl (cB9 (by simp only [ge_iff_le,decide_eq_true_eq];omega)) ?_
  refine .move (.gT (.move (.gT (.move (.gT ?_)))))
  refine .lenT _ ?_ st9
  refine .gT ?_
  refine .subTH xs ?_ st9
  refine .gT (.move (.gT ?_))
  refine .eqS (xs.take ps.length) ps ?_
  refine .pickT (.assign (.z (.ret (?_))))
  exact .ret1 (h1:=.tmp (t:=4) rfl) ⟨_,⟨rfl,rfl⟩,Am.auto⟩
 ·refine .sr (.assign (.x (.move ?_)))
  refine .lenT _ ?_ st9
  refine .move ?_
  refine .lenT _ ?_ st9
  refine .geq ?_
  refine .cast (d:=9) (u:=.bool false) rfl (cB9 (by simp only [ge_iff_le,decide_eq_false_iff_not];omega)) ?_
  refine .move (.gF (.gF (.gF (.gF (.gF ?_)))))
  refine .gF (.pickF (.assign (.z (.ret (?_)))))
  have hne:¬ xs.take ps.length=ps:=fun h=>by have:=congrArg List.length h;rw [List.length_take] at this;omega
  exact .ret1 (h1:=.tmp (t:=4) rfl) ⟨_,⟨cB9 (decide_eq_false hne).symm,rfl⟩,Am.auto⟩
theorem Q5 {xs ps:aa}:Spec Tryz.prog 256 #[sv xs,sv ps] [] fun F v M=>v=.tuple #[sv (if xs.take ps.length=ps then xs.drop ps.length else xs),.bool (decide (xs.take ps.length=ps))]/\M=F:=by
 refine Spec.intro Tryz.func256 rfl rfl fun B F=>?_
 simp only [Tryz.ntmps256,List.cons_append,List.nil_append,env0,Nat.reduceAdd]
 by_cases hp:xs.take ps.length=ps
 ·have hl:ps.length<=xs.length:=by have:=congrArg List.length hp;rw [List.length_take] at this;omega
  refine .sr (.assign (.assign (.z (.seq (.sr (.move (.move ?_)))))))
  refine .call (hc:=Tryz.call275) (sp:=Ou) (h:=?_)
  rintro _ _ ⟨rfl,rfl⟩
  refine .cast (d:=8) (u:=.bool true) rfl (cB9 (decide_eq_true hp)) ?_
  refine .not (.z ?_)
  refine .condF rfl rfl ?_
  refine .skip (.next (.sr (.move (.move ?_))))
  refine .lenT _ ?_ st9
  refine .subT xs ?_ st9
  refine .assign (.assign (.z (.ret (?_))))
  exact .ret2 (h1:=.tmp (t:=4) rfl) (h2:=.tmp (t:=5) rfl) ⟨_,⟨by rw [if_pos hp,decide_eq_true hp];rfl,rfl⟩,Am.auto⟩
 ·refine .sr (.assign (.assign (.z (.seq (.sr (.move (.move ?_)))))))
  refine .call (hc:=Tryz.call275) (sp:=Ou) (h:=?_)
  rintro _ _ ⟨rfl,rfl⟩
  refine .cast (d:=8) (u:=.bool false) rfl (cB9 (decide_eq_false hp)) ?_
  refine .not (.z ?_)
  refine .condT rfl rfl ?_
  refine .sr (.move (.assign (.assign (.z ?_))))
  refine .ret (.thenRet (?_))
  exact .ret2 (h1:=.tmp (t:=4) rfl) (h2:=.tmp (t:=5) rfl) ⟨_,⟨by rw [if_neg hp,decide_eq_false hp],rfl⟩,Am.auto⟩
theorem Iy {xs ps:aa}:Spec Tryz.prog 231 #[sv xs,sv ps] [] fun F v M=>v=.tuple #[sv (if xs.take ps.length=ps then xs.drop ps.length else xs),.bool (decide (xs.take ps.length=ps))]/\M=F:=by
 refine Spec.intro Tryz.func231 rfl rfl fun B F=>?_
 simp only [Tryz.ntmps231,List.cons_append,List.nil_append,env0,Nat.reduceAdd]
 refine .sr (.assign (.assign (.x (.move (.move ?_)))))
 refine .call (hc:=Tryz.call256) (sp:=Q5) (h:=?_)
 rintro _ _ ⟨rfl,rfl⟩
 refine .extract (.extract (.assign (.assign (.z (.ret (?_))))))
 exact .ret2 (h1:=.tmp (t:=4) rfl) (h2:=.tmp (t:=5) rfl) ⟨_,⟨rfl,rfl⟩,Am.auto⟩
theorem Q6 {xs:aa}:Spec Tryz.prog 294 #[sv xs,sv [47]] [] fun F v M=>v=.int .i64 ((Lib.countByte xs 47:Nat):Int)/\M=F:=by
 refine Spec.intro Tryz.func294 rfl rfl fun B F=>?_
 simp only [Tryz.ntmps294,List.cons_append,List.nil_append,env0,Nat.reduceAdd]
 refine .sr (.assign (.z (.seq (.sr (.move ?_)))))
 refine .lenT _ ?_ st9
 refine .eqi (.z ?_)
 refine .condF rfl rfl ?_
 refine .skip (.next (.seq (.sr (.move ?_))))
 refine .lenT _ ?_ st9
 refine .eqi (.z ?_)
 refine .condT rfl rfl ?_
 refine .sr (.move (.move ?_))
 refine .ixT (p:=0) (v:=47) [47] ?_ st9 rfl
 refine .callX (hc:=Tz xs ((47:UInt8).toNat:Int)) (h:=?_)
 refine .assign (.z ?_)
 refine .ret (.thenRet (?_))
 exact .ret1 (h1:=.tmp (t:=4) rfl) ⟨_,⟨rfl,rfl⟩,Am.auto⟩
theorem M2 {xs:aa}:Spec Tryz.prog 312 #[sv xs,sv [47]] [] fun F v M=>v=.int .i64 (Lib.indexByte xs 47)/\M=F:=by
 refine Spec.intro Tryz.func312 rfl rfl fun B F=>?_
 simp only [Tryz.ntmps312,List.cons_append,List.nil_append,env0,Nat.reduceAdd]
 by_cases hx:[47]=xs
 ·refine .sr (.assign (.x (.move ?_)))
  refine .lenT _ ?_ st9
  refine .assign (.z (.seq (.block (.sr (.move ?_)))))
  refine .eqi ?_
  refine .move (.gT (.move (.gT (.move (.gT ?_)))))
  refine .eqS [47] xs ?_
  refine .cast (d:=22) (u:=.bool true) rfl (cB9 (decide_eq_true hx)) ?_
  refine .pickF (.assign (.z ?_))
  refine .condT rfl rfl ?_
  refine .sr (.assign (.z ?_))
  refine .ret (.blockRet (.thenRet (?_)))
  subst hx
  exact .ret1 (h1:=.tmp (t:=4) rfl) ⟨_,⟨rfl,rfl⟩,Am.auto⟩
 ·refine .sr (.assign (.x (.move ?_)))
  refine .lenT _ ?_ st9
  refine .assign (.z (.seq (.block (.sr (.move ?_)))))
  refine .eqi ?_
  refine .move (.gT (.move (.gT (.move (.gT ?_)))))
  refine .eqS [47] xs ?_
  refine .cast (d:=22) (u:=.bool false) rfl (cB9 (decide_eq_false hx)) ?_
  refine .pickF (.assign (.z ?_))
  refine .condF rfl rfl ?_
  refine .sr (.move ?_)
  refine .eqi ?_
  refine .assign (.z ?_)
  refine .condT rfl rfl ?_
  refine .sr (.move (.move ?_))
  refine .ixT (p:=0) (v:=47) [47] ?_ st9 rfl
  refine .call (hc:=Tryz.call308) (sp:=C9 (xs:=xs) (c:=((47:UInt8).toNat:Int))) (h:=?_)
  rintro _ _ ⟨rfl,rfl⟩
  refine .assign (.z ?_)
  refine .ret (.blockRet (.thenRet (?_)))
  exact .ret1 (h1:=.tmp (t:=4) rfl) ⟨_,⟨rfl,rfl⟩,Am.auto⟩
theorem Q7 {xs:aa}:Spec Tryz.prog 295 #[sv xs,sv [47]] [] fun F v M=>v=.int .i64 (Lib.indexByte xs 47)/\M=F:=by
 refine Spec.intro Tryz.func295 rfl rfl fun B F=>?_
 simp only [Tryz.ntmps295,List.cons_append,List.nil_append,env0,Nat.reduceAdd]
 refine .sr (.assign (.x (.move (.move ?_))))
 refine .call (hc:=Tryz.call312) (sp:=M2) (h:=?_)
 rintro _ _ ⟨rfl,rfl⟩
 refine .assign (.z (.ret (?_)))
 exact .ret1 (h1:=.tmp (t:=4) rfl) ⟨_,⟨rfl,rfl⟩,Am.auto⟩
def svs (l:List aa):List Value:=l.map sv
theorem df (l:List aa):(svs l).length=l.length:=List.length_map ..
theorem Br {l:List aa} {i:Nat} (h:i < l.length):(svs l)[i]?=some (sv l[i]):=by simp [svs,h]
structure SpI (xs:aa) (i:Nat) (dn:List aa) (rest:aa):Prop where
 len:dn.length=i
 all:aj xs=dn++aj rest
 le:rest.length<=xs.length
theorem Iz (dn:List aa) (k:Nat) (x:aa) (hk:0 < k):(svs dn++List.replicate k (sv [])).set dn.length (sv x)=svs (dn++[x])++List.replicate (k - 1) (sv []):=by
 obtain ⟨k,rfl⟩:∃ k',k=k'+1:=⟨k - 1,by omega⟩
 rw [List.set_append_right _ _ (by rw [df];exact Nat.le_refl _),df,Nat.sub_self,List.replicate_succ]
 unfold svs
 rw [List.map_append,List.append_assoc]
 rfl
theorem E9 {xs:aa} (hl:xs.length<=1000000):Spec Tryz.prog 257 #[sv xs,sv [47],.int .i64 0,.int .i64 (-1)] [] fun F v M=>∃ u,v=u/\M=rowR 9 1 u (aj xs).length (svs (aj xs)) :: F:=by
 refine Spec.intro Tryz.func257 rfl rfl fun B F=>?_
 simp only [Tryz.ntmps257,List.cons_append,List.nil_append,env0,Nat.reduceAdd]
 obtain ⟨N,hN⟩:∃ N,(aj xs).length=N:=⟨_,rfl⟩
 have hcl:=ng xs
 have hcx:Lib.countByte xs 47<=xs.length:=List.count_le_length
 refine .sr (.assign (.z (.seq (.sr (.move ?_)))))
 refine .eqi (.z ?_)
 refine .condF rfl rfl ?_
 refine .skip (.next (.seq (.sr (.move ?_))))
 refine .eqS [47] [] ?_
 refine .cast (d:=15) (u:=.bool false) rfl rfl ?_
 refine .z ?_
 refine .condF rfl rfl ?_
 refine .skip (.next (.seq (.sr (.move ?_))))
 refine .lss (.z ?_)
 refine .condT rfl rfl ?_
 refine .region (.move (.move ?_))
 refine .call (hc:=Tryz.call294) (sp:=Q6) (h:=?_)
 rintro _ _ ⟨rfl,hM⟩
 obtain rfl:=hM.symm
 refine .add ?_
 refine .cast (d:=24) (u:=.int .i64 (N:Int)) rfl (cI9 (by omega)) ?_
 refine .assign (.x (.move (.move ?_)))
 refine .lenT _ ?_ st9
 refine .add ?_
 refine .minI ?_
 refine .cast (d:=29) (u:=.int .i64 (N:Int)) rfl (cI9 (by split<;>omega)) ?_
 refine .assign (.x (.move ?_))
 refine .mkS (k:=(N:Int)) z9 (fun b31=>?_) so62 (by omega) (by omega) (by omega)
 refine .cast (d:=31) (u:=.slice (some ⟨b31,0,none⟩) N N) rfl (by rw [Int.toNat_natCast]) ?_
 refine .assign (.x (.move ?_))
 refine .sub ?_
 refine .assign (.x (.assign (.z (.seq (.block ?_)))))
 simp only [Int.toNat_natCast]
 refine .to (A:=buf b31 9 N (List.replicate N (.string ⟨#[]⟩))) (A':=buf b31 9 N (svs []++List.replicate (N - 0) (sv []))) (fun h hh=>hh) ?_
 refine .loopA (σ:=Nat×List aa×aa) (fun y=>[(0,sv y.2.2),(1,sv [47]),(2,.int .i64 0),(3,.int .i64 ((N:Int) - 1)),(9,.slice (some ⟨b31,0,none⟩) N N),(10,.int .i64 ((y.1:Nat):Int))]) (fun y=>buf b31 9 N (svs y.2.1++List.replicate (N - y.1) (sv [])) :: F) (fun y=>SpI xs y.1 y.2.1 y.2.2/\y.1 < N) (fun y=>N - y.1) (0,[],xs) ⟨⟨rfl,rfl,Nat.le_refl _⟩,by show 0 < N;omega⟩ ?_
 rintro y hy
 obtain ⟨i,dn,rest⟩:=y
 obtain ⟨hy,hiN⟩:=hy
 simp only at hy hiN ⊢
 have hdl:=hy.len
 refine .seq (.sr (.move (.move ?_)))
 refine .lss (.z ?_)
 refine .cond rfl (fun hb=>?_) (fun hb=>?_)
 ·have hlt:i+1 < N:=by have h:(i:Int) < (N:Int) - 1:=of_decide_eq_true hb;omega
  have h47l:([47]:aa).length=1:=rfl
  have hrl:=ng rest
  have hal:=congrArg List.length hy.all
  rw [List.length_append,hN,hrl,hdl] at hal
  have hge:=Lib.indexByte_ge rest 47
  have hne:Lib.indexByte rest 47≠-1:=fun h=>by
   have h1:=Lib.indexByte_none h
   have h2:=lp h1
   rw [h2] at hrl
   simp only [List.length_cons,List.length_nil] at hrl
   omega
  obtain ⟨m,hm⟩:∃ m:Nat,Lib.indexByte rest 47=(m:Int):=⟨(Lib.indexByte rest 47).toNat,by omega⟩
  obtain ⟨h47,hbf⟩:=Lib.indexByte_some hm
  have hml:m < rest.length:=by
   by_cases h:m < rest.length
   ·exact h
   ·rw [List.getElem?_eq_none (by omega)] at h47;cases h47
  have hst:=zm h47 hbf
  have hle:=hy.le
  refine .skip (.next (.block (.sr (.move (.move ?_)))))
  refine .call (hc:=Tryz.call295) (sp:=Q7) (h:=?_)
  rintro _ _ ⟨rfl,rfl⟩
  rw [hm]
  refine .assign (.z (.seq (.sr (.move ?_))))
  refine .lss (.z ?_)
  refine .condF rfl (cB9 (by first|simp;done|simp;omega|omega)) ?_
  refine .skip (.next (.sr (.move (.move (.move (.move (.move ?_)))))))
  refine .add ?_
  refine .cast (d:=47) (u:=.int .i64 (m:Int)) rfl (cI9 (by omega)) ?_
  refine .subTH rest ?_ st9
  refine .idx1 ?_ so62
  refine .stB (i:=0+((i:Nat):Int).toNat) (xs:=svs dn++List.replicate (N - i) (sv [])) ?_ sc9 (by rw [List.length_append,df,List.length_replicate];omega)
  refine .to (A:=buf b31 9 N ((svs dn++List.replicate (N - i) (sv [])).set (0+((i:Nat):Int).toNat) (sv (rest.take ((m:Nat):Int).toNat)))) (A':=buf b31 9 N (svs (dn++[rest.take m])++List.replicate (N - (i+1)) (sv []))) (fun h hh=>by rw [show 0+((i:Nat):Int).toNat=dn.length from by omega,Int.toNat_natCast,Iz _ _ _ (by omega),show N - i - 1=N - (i+1) from by omega] at hh;exact hh) ?_
  refine .x (.move (.move (.move ?_)))
  refine .lenT _ ?_ st9
  refine .add ?_
  refine .subT rest ?_ st9
  refine .cast (d:=55) (u:=sv (rest.drop (m+1))) rfl (congrArg sv (congrArg (fun k=>rest.drop k) (by show ((m:Int)+1).toNat=m+1;omega))) ?_
  refine .assign (.y (.move ?_))
  refine .add ?_
  refine .assign (.nil (.blockNormal ?_))
  refine .cast (d:=10) (u:=.int .i64 ((i+1:Nat):Int)) rfl (cI9 (by omega)) ?_
  exact .back (i+1,dn++[rest.take m],rest.drop (m+1)) ⟨⟨by rw [List.length_append,hdl];rfl,by rw [hy.all,hst,List.append_assoc];rfl,by rw [List.length_drop];omega⟩,by show i+1 < N;omega⟩ (by show N - (i+1) < N - i;omega)
 ·have hge:¬ i+1 < N:=by have h:¬ (i:Int) < (N:Int) - 1:=of_decide_eq_false hb;omega
  have hal:=congrArg List.length hy.all
  rw [List.length_append,hN,hdl] at hal
  have hone:aj rest=[rest]:=by
   refine lp fun k hk=>?_
   have h1:=ng rest
   have h2:0 < Lib.countByte rest 47:=List.count_pos_iff.2 (List.mem_of_getElem? hk)
   omega
  refine .exit (.thenExit (.thenExit (.blockExit (?_))))
  refine .next (.sr (.move (.move (.move ?_))))
  refine .idx1 ?_ so62
  refine .stB (i:=0+((i:Nat):Int).toNat) (xs:=svs dn++List.replicate (N - i) (sv [])) ?_ sc9 (by rw [List.length_append,df,List.length_replicate];omega)
  refine .to (A:=buf b31 9 N ((svs dn++List.replicate (N - i) (sv [])).set (0+((i:Nat):Int).toNat) (sv rest))) (A':=rowR 9 1 (.slice (some ⟨b31,0,none⟩) (aj xs).length N) (aj xs).length (svs (aj xs))) (fun h hh=>by rw [show 0+((i:Nat):Int).toNat=dn.length from by omega,Iz _ _ _ (by omega),show N - i - 1=0 from by omega,List.replicate_zero,List.append_nil,<-hone,<-hy.all] at hh;have:=di (by unfold maxLen;omega) h hh;rwa [df] at this) ?_
  refine .x (.move (.move ?_))
  refine .add ?_
  refine .slcH ?_ so62
  refine .cast (d:=65) (u:=.slice (some ⟨b31,0,none⟩) (aj xs).length N) rfl (by rw [show ((i:Int)+1).toNat=(aj xs).length from by omega]) ?_
  refine .assign (.z (.ret (?_)))
  exact .ret1 (h1:=.tmp (t:=8) rfl) ⟨_,⟨_,rfl,rfl⟩,Am.auto⟩
theorem Dg {xs:aa} (hl:xs.length<=1000000):Spec Tryz.prog 232 #[sv xs,sv [47]] [] fun F v M=>∃ u,v=u/\M=rowR 9 1 u (aj xs).length (svs (aj xs)) :: F:=by
 refine Spec.intro Tryz.func232 rfl rfl fun B F=>?_
 simp only [Tryz.ntmps232,List.cons_append,List.nil_append,env0,Nat.reduceAdd]
 refine .sr (.assign (.x (.move (.move ?_))))
 refine .call (hc:=Tryz.call257) (sp:=E9 hl) (h:=?_)
 rintro _ _ ⟨u,hu0,rfl⟩
 rw [hu0]
 clear hu0
 refine .assign (.z (.ret (?_)))
 exact .ret1 (h1:=.tmp (t:=4) rfl) ⟨_,⟨_,rfl,rfl⟩,Am.auto⟩
theorem Dh {path:aa} (hl:path.length<=1000000):Spec Tryz.prog 172 #[sv path] [] fun F v M=>(∃ l u,ew path=some l/\v=.tuple #[u,.int .i64 0]/\M=rowR 9 1 u l.length (svs l) :: F) ∨ (ew path=none/\v=.tuple #[.slice none 0 0,.int .i64 1]/\M=F):=by
 refine Spec.intro Tryz.func172 rfl rfl fun B F=>?_
 simp only [Tryz.ntmps172,List.cons_append,List.nil_append,env0,Nat.reduceAdd]
 by_cases h1:path=[47]
 ·refine .sr (.assign (.assign (.z (.scope (.seq (.sr (.move ?_)))))))
  refine .eqS path [47] ?_
  refine .cast (d:=10) (u:=.bool true) rfl (cB9 (decide_eq_true h1)) ?_
  refine .z ?_
  refine .condT rfl rfl ?_
  refine .sr (.assign ?_)
  refine .emp (rowR.nil (e:=9) (size:=1) _) ?_
  refine .assign (.z ?_)
  refine .ret (.thenRet (.scopeRet (?_)))
  exact .ret2 (h1:=.tmp (t:=2) rfl) (h2:=.tmp (t:=3) rfl) ⟨_,.inl ⟨[],.slice none 0 0,by rw [h1];rfl,rfl,rfl⟩,Am.auto⟩
 ·by_cases h2:path.take ([47]:aa).length=[47]
  ·obtain ⟨rest,rfl⟩:∃ rest,path=47 :: rest:=by
    cases path with
    | nil=>cases h2
    | cons x r =>
     have hx:x=47:=by
      have h2:[x]=[47]:=h2
      injection h2
     exact ⟨r,by rw [hx]⟩
   have hne:rest≠[]:=fun h=>h1 (by rw [h])
   have hrl:rest.length<=1000000:=by rw [List.length_cons] at hl;omega
   obtain ⟨l,hsl⟩:∃ l,aj rest=l:=⟨_,rfl⟩
   have hpt:ew (47 :: rest)=if 8 < l.length then none else if l.all am then some l else none:=by
    show (if (47:UInt8)=47 then (if rest=[] then some [] else if 8 < (aj rest).length then none else if (aj rest).all am then some (aj rest) else none) else none)=_
    rw [if_pos rfl,if_neg hne,hsl]
   by_cases h8:8 < l.length
   ·refine .sr (.assign (.assign (.z (.scope (.seq (.sr (.move ?_)))))))
    refine .eqS (47 :: rest) [47] ?_
    refine .cast (d:=10) (u:=.bool false) rfl (cB9 (decide_eq_false h1)) ?_
    refine .z ?_
    refine .condF rfl rfl ?_
    refine .skip (.next (.sr (.move ?_)))
    refine .call (hc:=Tryz.call231) (sp:=Iy (xs:=47 :: rest) (ps:=[47])) (h:=?_)
    rintro _ _ ⟨rfl,hM⟩
    obtain rfl:=hM.symm
    rw [if_pos h2,decide_eq_true h2,show (47 :: rest).drop ([47]:aa).length=rest from rfl]
    refine .move ?_
    refine .extract (.extract ?_)
    refine .assign (.assign (.z (.seq (.sr (.move ?_)))))
    refine .not (.z ?_)
    refine .condF rfl rfl ?_
    refine .skip (.next (.sr (.move ?_)))
    refine .call (hc:=Tryz.call232) (sp:=Dg hrl) (h:=?_)
    rintro _ _ ⟨u,hu0,rfl⟩
    rw [hu0]
    clear hu0
    refine .fact (ae (el:=9) (size:=1) (v:=u) (k:=(aj rest).length) (xs:=svs (aj rest))) (fun ⟨A,cc,hu,hR,hc1,hc2,hlen⟩=>?_)
    subst hu
    rw [hsl] at hR hc1 hlen ⊢
    refine .assign (.z (.seq (.sr (.move ?_))))
    refine .lenS ?_ sl62
    refine .gtr (.z ?_)
    refine .condT rfl (cB9 (by first|simp;done|simp;omega|omega)) ?_
    refine .sr (.assign (.assign (.z ?_)))
    refine .ret (.thenRet (.scopeRet (?_)))
    exact .ret2 (h1:=.tmp (t:=2) rfl) (h2:=.tmp (t:=3) rfl) ⟨_,.inr ⟨(by rw [hpt,if_pos h8]),rfl,rfl⟩,Am.auto⟩
   ·refine .sr (.assign (.assign (.z (.scope (.seq (.sr (.move ?_)))))))
    refine .eqS (47 :: rest) [47] ?_
    refine .cast (d:=10) (u:=.bool false) rfl (cB9 (decide_eq_false h1)) ?_
    refine .z ?_
    refine .condF rfl rfl ?_
    refine .skip (.next (.sr (.move ?_)))
    refine .call (hc:=Tryz.call231) (sp:=Iy (xs:=47 :: rest) (ps:=[47])) (h:=?_)
    rintro _ _ ⟨rfl,hM⟩
    obtain rfl:=hM.symm
    rw [if_pos h2,decide_eq_true h2,show (47 :: rest).drop ([47]:aa).length=rest from rfl]
    refine .move ?_
    refine .extract (.extract ?_)
    refine .assign (.assign (.z (.seq (.sr (.move ?_)))))
    refine .not (.z ?_)
    refine .condF rfl rfl ?_
    refine .skip (.next (.sr (.move ?_)))
    refine .call (hc:=Tryz.call232) (sp:=Dg hrl) (h:=?_)
    rintro _ _ ⟨u,hu0,rfl⟩
    rw [hu0]
    clear hu0
    refine .fact (ae (el:=9) (size:=1) (v:=u) (k:=(aj rest).length) (xs:=svs (aj rest))) (fun ⟨A,cc,hu,hR,hc1,hc2,hlen⟩=>?_)
    subst hu
    rw [hsl] at hR hc1 hlen ⊢
    refine .assign (.z (.seq (.sr (.move ?_))))
    refine .lenS ?_ sl62
    refine .gtr (.z ?_)
    refine .condF rfl (cB9 (by first|simp;done|simp;omega|omega)) ?_
    refine .skip (.next (.seq (.label (.next (.seq (.sr (.move ?_)))))))
    refine .lenS ?_ sl62
    refine .move (.z (.block ?_))
    refine .loopA (σ:=Nat) (fun k=>[(6,.slice A l.length cc),(23,.slice A l.length cc),(24,.int .i64 ((l.length:Nat):Int)),(25,.int .i64 ((k:Nat):Int))]) (fun _=>rowR 9 1 (.slice A l.length cc) l.length (svs l) :: F) (fun k=>k<=l.length/\∀ j,j < k->am (l.getD j [])=true) (fun k=>l.length - k) 0 ⟨Nat.zero_le _,fun j hj=>absurd hj (Nat.not_lt_zero _)⟩ ?_
    rintro k hk
    refine .sr ?_
    refine .lss (.z (.seq ?_))
    refine .cond rfl (fun hb=>?_) (fun hb=>?_)
    ·have hlt:k < l.length:=by have h:(k:Int) < (l.length:Int):=of_decide_eq_true hb;omega
     have hll:=df l
     rcases A with _ | ⟨ab,ao,asp⟩
     ·exact absurd hR (fun h=>by have h2:svs l=[]:=h;rw [h2] at hll;simp at hll;omega)
     have hsp:asp=none:=hR.1
     subst hsp
     have hgk:(svs l)[((k:Nat):Int).toNat]?=some (sv l[k]):=Br hlt
     refine .skip (.next (.seq (.block (.sr ?_))))
     refine .idx1 ?_ so62
     refine .ldR (i:=((k:Nat):Int).toNat) ?_ sc9 hR hgk
     refine .assign (.z (.seq (.sr (.move ?_))))
     refine .call (hc:=Tryz.call104) (sp:=Bm (xs:=l[k])) (h:=?_)
     rintro _ _ ⟨rfl,rfl⟩
     refine .z ?_
     cases hnm:am l[k]
     ·refine .condF rfl rfl ?_
      refine .skip (.next (.sr (.assign (.assign (.z ?_)))))
      refine .ret (.blockRet (.thenRet (.thenRet (.blockRet (.thenRet (.scopeRet (?_)))))))
      have hall:l.all am=false:=by
       rw [List.all_eq_false]
       exact ⟨l[k],List.getElem_mem hlt,by rw [hnm];decide⟩
      exact .ret2 (h1:=.tmp (t:=2) rfl) (h2:=.tmp (t:=3) rfl) ⟨_,.inr ⟨(by rw [hpt,if_neg h8,if_neg (by rw [hall];decide)]),rfl,rfl⟩,Am.auto⟩
     ·refine .condT rfl rfl ?_
      refine .exit (.thenExit (.blockExit (?_)))
      refine .next (.region ?_)
      refine .add ?_
      refine .move (.nil ?_)
      refine .cast (d:=25) (u:=.int .i64 ((k+1:Nat):Int)) rfl (cI9 (by omega)) ?_
      exact .back (k+1) ⟨by show k+1<=l.length;omega,fun j hj=>if hjk:j < k then hk.2 j hjk else by rw [show j=k from by omega,List.getD_eq_getElem?_getD,List.getElem?_eq_getElem hlt];exact hnm⟩ (by show l.length - (k+1) < l.length - k;omega)
    ·have hge:¬ k < l.length:=by have h:¬ (k:Int) < (l.length:Int):=of_decide_eq_false hb;omega
     have hall:l.all am=true:=by
      rw [List.all_eq_true]
      intro x hx
      obtain ⟨j,hj,rfl⟩:=List.mem_iff_getElem.1 hx
      have:=hk.2 j (by omega)
      rwa [List.getD_eq_getElem?_getD,List.getElem?_eq_getElem hj] at this
     refine .exit (.thenExit (.thenExit (.blockExit (?_))))
     refine .next (.sr (.move (.assign (.assign (.z ?_)))))
     refine .ret (.scopeRet (?_))
     exact .ret2 (h1:=.tmp (t:=2) rfl) (h2:=.tmp (t:=3) rfl) ⟨_,.inl ⟨l,_,by rw [hpt,if_neg h8,if_pos hall],rfl,rfl⟩,Am.auto⟩
  ·refine .sr (.assign (.assign (.z (.scope (.seq (.sr (.move ?_)))))))
   refine .eqS path [47] ?_
   refine .cast (d:=10) (u:=.bool false) rfl (cB9 (decide_eq_false h1)) ?_
   refine .z ?_
   refine .condF rfl rfl ?_
   refine .skip (.next (.sr (.move ?_)))
   refine .call (hc:=Tryz.call231) (sp:=Iy (xs:=path) (ps:=[47])) (h:=?_)
   rintro _ _ ⟨rfl,hM⟩
   obtain rfl:=hM.symm
   rw [if_neg h2,decide_eq_false h2]
   refine .move ?_
   refine .extract (.extract ?_)
   refine .assign (.assign (.z (.seq (.sr (.move ?_)))))
   refine .not (.z ?_)
   refine .condT rfl rfl ?_
   refine .sr (.assign (.assign (.z ?_)))
   refine .ret (.thenRet (.scopeRet (?_)))
   have hno:ew path=none:=by
    cases path with
    | nil=>rfl
    | cons x r =>
     have hx:x≠47:=fun hx=>h2 (by rw [hx];rfl)
     show (if x=47 then _ else none)=none
     rw [if_neg hx]
   exact .ret2 (h1:=.tmp (t:=2) rfl) (h2:=.tmp (t:=3) rfl) ⟨_,.inr ⟨hno,rfl,rfl⟩,Am.auto⟩
theorem lq {path:aa} {l:List aa} (hl:path.length<=1000000) (hp:ew path=some l):Spec Tryz.prog 172 #[sv path] [] fun F v M=>∃ u,v=.tuple #[u,.int .i64 0]/\M=rowR 9 1 u l.length (svs l) :: F:=by
 refine (Dh hl).post ?_
 rintro F v M (⟨l',u,h,rfl,rfl⟩ | ⟨h,_⟩)
 ·rw [hp] at h
  injection h with h
  subst h
  exact ⟨_,⟨u,rfl,rfl⟩,Wk.refl⟩
 ·rw [hp] at h;cases h
theorem zn {path:aa} (hl:path.length<=1000000) (hp:ew path=none):Spec Tryz.prog 172 #[sv path] [] fun F v M=>v=.tuple #[.slice none 0 0,.int .i64 1]/\M=F:=by
 refine (Dh hl).post ?_
 rintro F v M (⟨l',u,h,rfl,rfl⟩ | ⟨h,rfl,rfl⟩)
 ·rw [hp] at h;cases h
 ·exact ⟨_,⟨rfl,rfl⟩,Wk.refl⟩
theorem pu :ad Tryz.prog 133 6 6=true:=by kernel_rfl
theorem Fa :ai Tryz.prog 131=true:=by kernel_rfl
theorem fc :ad Tryz.prog 133 2 2=true:=by kernel_rfl
theorem pw :ai Tryz.prog 130=true:=by kernel_rfl
theorem Fb :jp Tryz.prog 131 267 3=true:=by kernel_rfl
theorem uu :mt Tryz.prog 29=true:=by kernel_rfl
theorem fd :ad Tryz.prog 133 0 0=true:=by kernel_rfl
theorem Di (d:Int) (s:ByteArray):av Tryz.prog 267 [(0,.int .i64 d),(1,.string s)] #[.int .i64 d,.string s]:=fun w=>by kernel_rfl
abbrev KL :=Int×aa
def encL :KL->Value:=fun k=>.agg (xvs [.inl k.1,.inr k.2]).toArray
theorem klL :KeyLaw Tryz.prog 267 encL:=Gy (fun k:KL=>[.inl k.1,.inr k.2]) [true,false] (by kernel_rfl) (fun _=>rfl) (fun a b h=>by
 obtain ⟨a1,a2⟩:=a
 obtain ⟨b1,b2⟩:=b
 injection h with h1 h2
 injection h1 with h1
 injection h2 with h2 _
 injection h2 with h2
 have h1:a1=b1:=h1
 have h2:a2=b2:=h2
 rw [h1,h2])
structure LDP (T:FT) (y:Array MapEntry×Nat×List (KL×Value)):Prop where
 hm:MapIs encL y.1 y.2.1 y.2.2
 ok:∀ d nm v,kget y.2.2 (d,nm)=some v->∃ i:Nat,v=nI i/\0<=d/\d7 T d.toNat nm=(i,0)
def LD (mp:Nat) (T:FT):HP:=fun h=>∃ y,LDP T y/\star [pt mp (.map y.1 y.2.1)] h
theorem LD.opens (mp:Nat) (T:FT):Opens (LD mp T) (LDP T) (fun y=>[pt mp (.map y.1 y.2.1)]):=⟨fun h hh=>hh,fun x hp h hh=>⟨x,hp,hh⟩⟩
attribute [irreducible] LD
theorem LDP.empty (T:FT) (c:Nat):LDP T (#[],c,[]):=⟨MapIs.empty _ _,fun d nm v h=>by cases h⟩
theorem LDP.put {T:FT} {es:Array MapEntry} {c:Nat} {kv:List (KL×Value)} {es':Array MapEntry} {c':Nat} (h:LDP T (es,c,kv)) {d i:Nat} {nm:aa} (hm:MapIs encL es' c' (kput kv ((d:Int),nm) (nI i))) (hf:d7 T d nm=(i,0)):LDP T (es',c',kput kv ((d:Int),nm) (nI i)):=by
 refine ⟨hm,fun d' nm' v hg=>?_⟩
 rw [cj] at hg
 split at hg
 ·rename_i he
  injection he with h1 h2
  injection hg with hg
  exact ⟨i,hg.symm,by omega,by rw [h1,h2,Int.toNat_natCast];exact hf⟩
 ·exact h.ok d' nm' v hg
def fO (c a s:Nat) (b ov dead:Bool) (mp:Nat):Obj:=.cells #[.pointer (some ⟨c,0,none⟩),.pointer (some ⟨a,0,none⟩),.pointer (some ⟨s,0,none⟩),.bool b,.bool ov,.bool dead,.map (some mp)] 133 (0,0)
theorem Ov {s a c:Nat} {p:Pl} {T:FT} {F0:FM} {W:Nat} {op:Bool} {d:Nat} {nm:aa} (ho:PlOk p) (hT:TOk T):Spec Tryz.prog 181 #[.pointer (some ⟨s,0,none⟩),nI d,sv nm] [IN s a c p F0 (fmT T) W op] fun G v M=>v=.tuple #[nI (d7 T d nm).1,nI (d7 T d nm).2]/\M=IN s a c p F0 (fmT T) W op :: G:=by
 obtain ⟨i,e,hf⟩:∃ i e,d7 T d nm=(i,e):=⟨_,_,rfl⟩
 rw [hf]
 by_cases he:e=0
 ·subst he
  obtain ⟨hn,sl,q,hd,hl⟩:=M0 hf
  have:=hT d sl hd
  exact dFind (s:=s) (a:=a) (c:=c) (p:=p) (F0:=F0) (Fm:=fmT T) (W:=W) (op:=op) ho hn (ep hd) this.1 (by omega) (jg hl)
 ·obtain ⟨rfl,h | ⟨hn,rfl,sl,hd,hl⟩⟩:=Ix hf he
  ·exact Tw (s:=s) (a:=a) (c:=c) (p:=p) (F0:=F0) (Fm:=fmT T) (W:=W) (op:=op) (d:=(d:Int)) (e:=(e:Int)) ho h (by omega)
  ·have:=hT d sl hd
   exact Q3 (s:=s) (a:=a) (c:=c) (p:=p) (F0:=F0) (Fm:=fmT T) (W:=W) (op:=op) ho hn (ep hd) this.1 (by omega) (jh hl)
theorem I0 {f s a c mp:Nat} {b ov dead:Bool} {p:Pl} {T:FT} {F0:FM} {W:Nat} {op:Bool} {d:Nat} {nm:aa} (ho:PlOk p) (hT:TOk T):Spec Tryz.prog 113 #[.pointer (some ⟨f,0,none⟩),nI d,sv nm] [pt f (fO c a s b ov dead mp),LD mp T,IN s a c p F0 (fmT T) W op] fun F v M=>v=.tuple #[nI (d7 T d nm).1,nI (d7 T d nm).2]/\M=pt f (fO c a s b ov dead mp) :: LD mp T :: IN s a c p F0 (fmT T) W op :: F:=by
 refine Spec.intro Tryz.func113 rfl rfl fun B F=>?_
 simp only [Tryz.ntmps113,List.cons_append,List.nil_append,env0,Nat.reduceAdd]
 refine .openR (LD.opens mp T) fun y hy=>?_
 obtain ⟨es,cl,kv⟩:=y
 simp only [List.cons_append,List.nil_append]
 cases hg:kget kv ((d:Int),nm) with
 | some v =>
  obtain ⟨i,rfl,_,hf⟩:=hy.ok _ _ _ hg
  rw [Int.toNat_natCast] at hf
  refine .sr (.assign (.assign (.z (.seq (.sr (.move ?_))))))
  refine .nilCheck ?_
  refine .fa ?_ pu
  refine .ld ?_ Fa
  refine .move (.move ?_)
  refine .build ?_ (Di _ _)
  refine .lookOk (k:=((d:Int),nm)) klL hy.hm Fb zv3 ?_
  refine .cast (d:=20) (u:=.tuple #[nI i,.bool true]) rfl (by rw [hg];rfl) ?_
  refine .move ?_
  refine .extract (.extract ?_)
  refine .assign (.assign (.x (.move (.z ?_))))
  refine .condT rfl rfl ?_
  refine .sr (.move (.assign (.assign (.z ?_))))
  refine .ret (.thenRet (?_))
  refine .shutR (LD.opens mp T) (es,cl,kv) hy ?_
  exact .ret2 (h1:=.tmp (t:=6) rfl) (h2:=.tmp (t:=7) rfl) ⟨_,⟨by first | rfl | (rw [hf];rfl),rfl⟩,Am.auto⟩
 | none =>
  obtain ⟨i,e,hf⟩:∃ i e,d7 T d nm=(i,e):=⟨_,_,rfl⟩
  by_cases he:e=0
  ·subst he
   refine .sr (.assign (.assign (.z (.seq (.sr (.move ?_))))))
   refine .nilCheck ?_
   refine .fa ?_ pu
   refine .ld ?_ Fa
   refine .move (.move ?_)
   refine .build ?_ (Di _ _)
   refine .lookOk (k:=((d:Int),nm)) klL hy.hm Fb zv3 ?_
   refine .cast (d:=20) (u:=.tuple #[nI 0,.bool false]) rfl (by rw [hg];rfl) ?_
   refine .move ?_
   refine .extract (.extract ?_)
   refine .assign (.assign (.x (.move (.z ?_))))
   refine .condF rfl rfl ?_
   refine .skip (.next (.sr (.move (.nilCheck ?_))))
   refine .fa ?_ fc
   refine .ld ?_ pw
   refine .move (.move ?_)
   refine .call (hc:=Tryz.call181) (sp:=Ov (s:=s) (a:=a) (c:=c) (p:=p) (F0:=F0) (T:=T) (W:=W) (op:=op) (d:=d) (nm:=nm) ho hT) (h:=?_)
   rintro _ _ ⟨rfl,rfl⟩
   rw [hf]
   refine .move ?_
   refine .extract (.extract ?_)
   refine .assign (.assign (.z (.seq (.sr (.move ?_)))))
   refine .eqi (.z ?_)
   refine .condT rfl (cB9 (by first|simp;done|simp;omega|omega)) ?_
   refine .region (.move (.nilCheck ?_))
   refine .fa ?_ pu
   refine .ld ?_ Fa
   refine .move (.move ?_)
   refine .build ?_ (Di _ _)
   refine .move ?_
   refine .upd (k:=((d:Int),nm)) klL hy.hm Fb fun es2 c2 hm2=>?_
   refine .x (.move (.move (.assign (.assign (.z ?_)))))
   refine .ret (?_)
   refine .shutR (LD.opens mp T) (es2,c2,_) (hy.put hm2 hf) ?_
   exact .ret2 (h1:=.tmp (t:=6) rfl) (h2:=.tmp (t:=7) rfl) ⟨_,⟨by first | rfl | (rw [hf];rfl),rfl⟩,Am.auto⟩
  ·refine .sr (.assign (.assign (.z (.seq (.sr (.move ?_))))))
   refine .nilCheck ?_
   refine .fa ?_ pu
   refine .ld ?_ Fa
   refine .move (.move ?_)
   refine .build ?_ (Di _ _)
   refine .lookOk (k:=((d:Int),nm)) klL hy.hm Fb zv3 ?_
   refine .cast (d:=20) (u:=.tuple #[nI 0,.bool false]) rfl (by rw [hg];rfl) ?_
   refine .move ?_
   refine .extract (.extract ?_)
   refine .assign (.assign (.x (.move (.z ?_))))
   refine .condF rfl rfl ?_
   refine .skip (.next (.sr (.move (.nilCheck ?_))))
   refine .fa ?_ fc
   refine .ld ?_ pw
   refine .move (.move ?_)
   refine .call (hc:=Tryz.call181) (sp:=Ov (s:=s) (a:=a) (c:=c) (p:=p) (F0:=F0) (T:=T) (W:=W) (op:=op) (d:=d) (nm:=nm) ho hT) (h:=?_)
   rintro _ _ ⟨rfl,rfl⟩
   rw [hf]
   refine .move ?_
   refine .extract (.extract ?_)
   refine .assign (.assign (.z (.seq (.sr (.move ?_)))))
   refine .eqi (.z ?_)
   refine .condF rfl (cB9 (by first|simp;done|simp;omega|omega)) ?_
   refine .skip (.next (.sr (.move (.move (.assign (.assign (.z ?_)))))))
   refine .ret (?_)
   refine .shutR (LD.opens mp T) (es,cl,kv) hy ?_
   exact .ret2 (h1:=.tmp (t:=6) rfl) (h2:=.tmp (t:=7) rfl) ⟨_,⟨by first | rfl | (rw [hf];rfl),rfl⟩,Am.auto⟩
theorem Fc {T:FT} {nm:aa} {r:List aa} {d:Nat} (h:(d7 T d nm).2=0):de T d (nm :: r)=de T (d7 T d nm).1 r:=by rw [de,if_pos h]
theorem Fd {T:FT} {nm:aa} {r:List aa} {d:Nat} (h:(d7 T d nm).2≠0):de T d (nm :: r)=(0,(d7 T d nm).2):=by rw [de,if_neg h]
theorem tp {f s a c mp:Nat} {b ov dead:Bool} {p:Pl} {T:FT} {F0:FM} {W:Nat} {op:Bool} {R:HP} {A:Option Addr} {cc m:Nat} {l:List aa} (ho:PlOk p) (hT:TOk T) (hR:Reads R A (svs l) ∨ l=[]) (hl:l.length=m) (hl8:m<=1000000):Spec Tryz.prog 173 #[.pointer (some ⟨f,0,none⟩),.slice A m cc] [pt f (fO c a s b ov dead mp),LD mp T,IN s a c p F0 (fmT T) W op,R] fun F v M=>v=.tuple #[nI (de T 0 l).1,nI (de T 0 l).2]/\M=pt f (fO c a s b ov dead mp) :: LD mp T :: IN s a c p F0 (fmT T) W op :: R :: F:=by
 refine Spec.intro Tryz.func173 rfl rfl fun B F=>?_
 simp only [Tryz.ntmps173,List.cons_append,List.nil_append,env0,Nat.reduceAdd]
 subst hl
 refine .sr (.assign (.assign (.z (.seq (.sr (.move ?_))))))
 refine .lenS ?_ sl62
 refine .move (.z (.block ?_))
 refine .loopA (σ:=Nat×Nat) (fun y=>[(0,.pointer (some ⟨f,0,none⟩)),(4,nI y.2),(8,.slice A l.length cc),(9,.int .i64 ((l.length:Nat):Int)),(10,.int .i64 ((y.1:Nat):Int))]) (fun _=>[pt f (fO c a s b ov dead mp),LD mp T,IN s a c p F0 (fmT T) W op,R]++F) (fun y=>y.1<=l.length/\de T y.2 (l.drop y.1)=de T 0 l) (fun y=>l.length - y.1) (0,0) ⟨Nat.zero_le _,rfl⟩ ?_
 rintro y hy
 obtain ⟨k,d⟩:=y
 obtain ⟨hk,hwk⟩:=hy
 simp only at hk hwk ⊢
 refine .sr ?_
 refine .lss (.z (.seq ?_))
 refine .cond rfl (fun hb=>?_) (fun hb=>?_)
 ·have hlt:k < l.length:=by have h:(k:Int) < (l.length:Int):=of_decide_eq_true hb;omega
  have hdk:=List.drop_eq_getElem_cons hlt
  rcases hR with hR | hR
  rotate_left
  ·subst hR;simp at hlt
  rcases A with _ | ⟨ab,ao,asp⟩
  ·exact absurd hR (fun h=>by have h2:svs l=[]:=h;have hll:=df l;rw [h2] at hll;simp at hll;omega)
  have hsp:asp=none:=hR.1
  subst hsp
  have hgk:(svs l)[((k:Nat):Int).toNat]?=some (sv l[k]):=Br hlt
  obtain ⟨i,e,hf⟩:∃ i e,d7 T d l[k]=(i,e):=⟨_,_,rfl⟩
  by_cases he:e=0
  ·subst he
   refine .skip (.next (.seq (.block (.sr ?_))))
   refine .idx1 ?_ so62
   refine .ldR (i:=((k:Nat):Int).toNat) ?_ sc9 hR hgk
   refine .assign (.x (.move (.move (.move ?_))))
   refine .call (hc:=Tryz.call113) (sp:=I0 (f:=f) (s:=s) (a:=a) (c:=c) (mp:=mp) (b:=b) (ov:=ov) (dead:=dead) (p:=p) (T:=T) (F0:=F0) (W:=W) (op:=op) (d:=d) (nm:=l[k]) ho hT) (h:=?_)
   rintro _ _ ⟨rfl,rfl⟩
   rw [hf]
   refine .move ?_
   refine .extract (.extract (.assign (.assign (.x (.move ?_)))))
   refine .nei (.z ?_)
   refine .condF rfl (cB9 (by first|simp;done|simp;omega|omega)) ?_
   refine .skip (.blockNormal (.next (.region ?_)))
   refine .add ?_
   refine .move (.nil ?_)
   refine .cast (d:=10) (u:=.int .i64 ((k+1:Nat):Int)) rfl (cI9 (by omega)) ?_
   exact .back (k+1,i) ⟨by show k+1<=l.length;omega,by show de T i (l.drop (k+1))=_;rw [<- hwk,hdk,Fc (by rw [hf]),hf]⟩ (by show l.length - (k+1) < l.length - k;omega)
  ·refine .skip (.next (.seq (.block (.sr ?_))))
   refine .idx1 ?_ so62
   refine .ldR (i:=((k:Nat):Int).toNat) ?_ sc9 hR hgk
   refine .assign (.x (.move (.move (.move ?_))))
   refine .call (hc:=Tryz.call113) (sp:=I0 (f:=f) (s:=s) (a:=a) (c:=c) (mp:=mp) (b:=b) (ov:=ov) (dead:=dead) (p:=p) (T:=T) (F0:=F0) (W:=W) (op:=op) (d:=d) (nm:=l[k]) ho hT) (h:=?_)
   rintro _ _ ⟨rfl,rfl⟩
   rw [hf]
   refine .move ?_
   refine .extract (.extract (.assign (.assign (.x (.move ?_)))))
   refine .nei (.z ?_)
   refine .condT rfl (cB9 (by first|simp;done|simp;omega|omega)) ?_
   refine .sr (.move (.assign (.assign (.z ?_))))
   refine .ret (.blockRet (.thenRet (.thenRet (.blockRet (.thenRet (?_))))))
   have hst:de T 0 l=(0,e):=by rw [<- hwk,hdk,Fd (by rw [hf];exact he),hf]
   exact .ret2 (h1:=.tmp (t:=4) rfl) (h2:=.tmp (t:=5) rfl) ⟨_,⟨by rw [hst];rfl,rfl⟩,Am.auto⟩
 ·have hge:¬ k < l.length:=by have h:¬ (k:Int) < (l.length:Int):=of_decide_eq_false hb;omega
  rw [List.drop_eq_nil_of_le (by omega)] at hwk
  refine .exit (.thenExit (.thenExit (.blockExit (?_))))
  refine .next (.sr (.move (.assign (.assign (.z ?_)))))
  refine .ret (?_)
  exact .ret2 (h1:=.tmp (t:=4) rfl) (h2:=.tmp (t:=5) rfl) ⟨_,⟨by rw [<- hwk];rfl,rfl⟩,Am.auto⟩
theorem I1 {s a c:Nat} {p:Pl} {T:FT} {F0:FM} {W:Nat} {op:Bool} {i:Nat} {x:NodeT} (ho:PlOk p) (hi:T i=some x):Spec Tryz.prog 174 #[.pointer (some ⟨s,0,none⟩),nI i] [IN s a c p F0 (fmT T) W op] fun G v M=>v=.tuple #[.agg #[nI x.kind,nI x.size],.int .i64 0]/\M=IN s a c p F0 (fmT T) W op :: G:=by
 have:=Qu (s:=s) (a:=a) (c:=c) (p:=p) (F0:=F0) (F:=fmT T) (W:=W) (op:=op) (i:=i) ho (ep hi)
 rwa [x.f_kind,x.f_size] at this
theorem Dl {s a c:Nat} {p:Pl} {T:FT} {F0:FM} {W:Nat} {op:Bool} {i:Nat} (ho:PlOk p) (hi:T i=none):Spec Tryz.prog 174 #[.pointer (some ⟨s,0,none⟩),nI i] [IN s a c p F0 (fmT T) W op] fun G v M=>v=.tuple #[.agg #[nI 0,nI 0],.int .i64 4]/\M=IN s a c p F0 (fmT T) W op :: G :=
 Ib (i:=(i:Int)) ho (by rw [vi];exact l5 hi)
theorem vm {path:aa} {l:List aa} (h:ew path=some l):l.length<=1000000:=by
 unfold ew at h
 split at h
 ·cases h
 ·split at h
  ·split at h
   ·injection h with h;subst h;exact Nat.zero_le _
   ·split at h
    ·cases h
    ·split at h
     ·injection h with h;subst h;omega
     ·cases h
  ·cases h
theorem xo {f s a c mp:Nat} {b ov dead:Bool} {p:Pl} {T:FT} {F0:FM} {W:Nat} {op:Bool} {path:aa} (ho:PlOk p) (hT:TOk T) (hpl:path.length<=1000000):Spec Tryz.prog 107 #[.pointer (some ⟨f,0,none⟩),sv path] [pt f (fO c a s b ov dead mp),LD mp T,IN s a c p F0 (fmT T) W op] fun F v M=>v=.tuple #[nI (fp T path).1,.agg #[nI (fp T path).2.1,nI (fp T path).2.2.1],nI (fp T path).2.2.2]/\M=pt f (fO c a s b ov dead mp) :: LD mp T :: IN s a c p F0 (fmT T) W op :: F:=by
 refine Spec.intro Tryz.func107 rfl rfl fun B F=>?_
 simp only [Tryz.ntmps107,List.cons_append,List.nil_append,env0,Nat.reduceAdd]
 cases hpt:ew path with
 | none =>
  have hlt:fp T path=(0,0,0,1):=by unfold fp;rw [hpt]
  refine .sr (.assign ?_)
  refine .alloc z159 fun b5=>?_
  refine .assign (.z (.seq (.sr (.move ?_))))
  refine .eqNil ?_ uu
  refine .move (.gT (.move (.gT (.nilCheck (.gT ?_)))))
  refine .fa ?_ fd
  refine .gT ?_
  refine .ld ?_ dj
  refine .gT ?_
  refine .eqNil ?_ km
  refine .pickF (.z ?_)
  refine .condF rfl rfl ?_
  refine .skip (.next (.sr (.move ?_)))
  refine .call (hc:=Tryz.call172) (sp:=zn hpl hpt) (h:=?_)
  rintro _ _ ⟨rfl,rfl⟩
  refine .move ?_
  refine .extract (.extract ?_)
  refine .assign (.assign (.z (.seq (.sr (.move ?_)))))
  refine .nei (.z ?_)
  refine .condT rfl (cB9 (by first|simp;done|simp;omega|omega)) ?_
  refine .sr ?_
  refine .build (cs:=#[nI 0,nI 0]) ?_ (fun w=>by kernel_rfl)
  refine .move (.assign ?_)
  refine .stV ?_ cw
  refine .assign (.z ?_)
  refine .ret (.thenRet (?_))
  exact .ret3 (h1:=.tmp (t:=4) rfl) (h3:=.tmp (t:=6) rfl) ⟨_,⟨by rw [hlt];rfl,rfl⟩,Am.auto⟩
 | some l =>
  have hlt:fp T path=if (de T 0 l).2=0 then (match T (de T 0 l).1 with | some x=>((de T 0 l).1,x.kind,x.size,0) | none=>((de T 0 l).1,0,0,4)) else (0,0,0,(de T 0 l).2):=by unfold fp;rw [hpt];first | done | rfl
  have hl8:=vm hpt
  obtain ⟨i,e,hw⟩:∃ i e,de T 0 l=(i,e):=⟨_,_,rfl⟩
  rw [hw] at hlt
  by_cases he:e=0
  ·subst he
   rw [if_pos rfl] at hlt
   cases hTi:T i with
   | some x =>
    simp only [hTi] at hlt
    refine .sr (.assign ?_)
    refine .alloc z159 fun b5=>?_
    refine .assign (.z (.seq (.sr (.move ?_))))
    refine .eqNil ?_ uu
    refine .move (.gT (.move (.gT (.nilCheck (.gT ?_)))))
    refine .fa ?_ fd
    refine .gT ?_
    refine .ld ?_ dj
    refine .gT ?_
    refine .eqNil ?_ km
    refine .pickF (.z ?_)
    refine .condF rfl rfl ?_
    refine .skip (.next (.sr (.move ?_)))
    refine .call (hc:=Tryz.call172) (sp:=lq hpl hpt) (h:=?_)
    rintro _ _ ⟨u,rfl,rfl⟩
    refine .fact (ae (el:=9) (size:=1) (v:=u) (k:=l.length) (xs:=svs l)) (fun ⟨A,cc,hu,hR,hc1,hc2,hlen⟩=>?_)
    subst hu
    refine .move ?_
    refine .extract (.extract ?_)
    refine .assign (.assign (.z (.seq (.sr (.move ?_)))))
    refine .nei (.z ?_)
    refine .condF rfl (cB9 (by first|simp;done|simp;omega|omega)) ?_
    refine .skip (.next (.sr (.move (.move ?_))))
    refine .call (hc:=Tryz.call173) (sp:=tp (f:=f) (s:=s) (a:=a) (c:=c) (mp:=mp) (b:=b) (ov:=ov) (dead:=dead) (p:=p) (T:=T) (F0:=F0) (W:=W) (op:=op) (l:=l) (R:=rowR 9 1 (.slice A l.length cc) l.length (svs l)) ho hT (.inl hR) rfl hl8) (h:=?_)
    rintro _ _ ⟨rfl,rfl⟩
    rw [hw]
    refine .move ?_
    refine .extract (.extract ?_)
    refine .assign (.assign (.z (.seq (.sr (.move ?_)))))
    refine .nei (.z ?_)
    refine .condF rfl (cB9 (by first|simp;done|simp;omega|omega)) ?_
    refine .skip (.next (.sr (.move (.nilCheck ?_))))
    refine .fa ?_ fc
    refine .ld ?_ pw
    refine .move ?_
    refine .call (hc:=Tryz.call174) (sp:=I1 (s:=s) (a:=a) (c:=c) (p:=p) (F0:=F0) (T:=T) (W:=W) (op:=op) (i:=i) ho hTi) (h:=?_)
    rintro _ _ ⟨rfl,rfl⟩
    refine .move ?_
    refine .extract (.extract ?_)
    refine .alloc z159 fun b10=>?_
    refine .stV ?_ cw
    refine .assign (.z (.seq ?_))
    refine .dr ([pt b10 (.cells #[nI x.kind,nI x.size] 159 (0,0))]) [] 6 mixed .autoJ ?_
    refine .tk 0 rfl .move ?_
    refine .tk 1 rfl (.ldA cw) ?_
    refine .tk 2 rfl .move ?_
    refine .tk 3 rfl .assign ?_
    refine .on 4 rfl fun hnp=>?_
    refine .stV ?_ cw
    refine .nil (.wa hnp ?_)
    refine .tk 5 rfl .assign ?_
    refine .fin ?_
    refine .next (.ret (?_))
    exact .ret3 (h1:=.tmp (t:=4) rfl) (h3:=.tmp (t:=6) rfl) ⟨_,⟨by rw [hlt];rfl,rfl⟩,Am.auto⟩
   | none =>
    simp only [hTi] at hlt
    refine .sr (.assign ?_)
    refine .alloc z159 fun b5=>?_
    refine .assign (.z (.seq (.sr (.move ?_))))
    refine .eqNil ?_ uu
    refine .move (.gT (.move (.gT (.nilCheck (.gT ?_)))))
    refine .fa ?_ fd
    refine .gT ?_
    refine .ld ?_ dj
    refine .gT ?_
    refine .eqNil ?_ km
    refine .pickF (.z ?_)
    refine .condF rfl rfl ?_
    refine .skip (.next (.sr (.move ?_)))
    refine .call (hc:=Tryz.call172) (sp:=lq hpl hpt) (h:=?_)
    rintro _ _ ⟨u,rfl,rfl⟩
    refine .fact (ae (el:=9) (size:=1) (v:=u) (k:=l.length) (xs:=svs l)) (fun ⟨A,cc,hu,hR,hc1,hc2,hlen⟩=>?_)
    subst hu
    refine .move ?_
    refine .extract (.extract ?_)
    refine .assign (.assign (.z (.seq (.sr (.move ?_)))))
    refine .nei (.z ?_)
    refine .condF rfl (cB9 (by first|simp;done|simp;omega|omega)) ?_
    refine .skip (.next (.sr (.move (.move ?_))))
    refine .call (hc:=Tryz.call173) (sp:=tp (f:=f) (s:=s) (a:=a) (c:=c) (mp:=mp) (b:=b) (ov:=ov) (dead:=dead) (p:=p) (T:=T) (F0:=F0) (W:=W) (op:=op) (l:=l) (R:=rowR 9 1 (.slice A l.length cc) l.length (svs l)) ho hT (.inl hR) rfl hl8) (h:=?_)
    rintro _ _ ⟨rfl,rfl⟩
    rw [hw]
    refine .move ?_
    refine .extract (.extract ?_)
    refine .assign (.assign (.z (.seq (.sr (.move ?_)))))
    refine .nei (.z ?_)
    refine .condF rfl (cB9 (by first|simp;done|simp;omega|omega)) ?_
    refine .skip (.next (.sr (.move (.nilCheck ?_))))
    refine .fa ?_ fc
    refine .ld ?_ pw
    refine .move ?_
    refine .call (hc:=Tryz.call174) (sp:=Dl (s:=s) (a:=a) (c:=c) (p:=p) (F0:=F0) (T:=T) (W:=W) (op:=op) (i:=i) ho hTi) (h:=?_)
    rintro _ _ ⟨rfl,rfl⟩
    refine .move ?_
    refine .extract (.extract ?_)
    refine .alloc z159 fun b10=>?_
    refine .stV ?_ cw
    refine .assign (.z (.seq ?_))
    refine .dr ([pt b10 (.cells #[nI 0,nI 0] 159 (0,0))]) [] 6 mixed .autoJ ?_
    refine .tk 0 rfl .move ?_
    refine .tk 1 rfl (.ldA cw) ?_
    refine .tk 2 rfl .move ?_
    refine .tk 3 rfl .assign ?_
    refine .on 4 rfl fun hnp=>?_
    refine .stV ?_ cw
    refine .nil (.wa hnp ?_)
    refine .tk 5 rfl .assign ?_
    refine .fin ?_
    refine .next (.ret (?_))
    exact .ret3 (h1:=.tmp (t:=4) rfl) (h3:=.tmp (t:=6) rfl) ⟨_,⟨by rw [hlt];rfl,rfl⟩,Am.auto⟩
  ·rw [if_neg he] at hlt
   refine .sr (.assign ?_)
   refine .alloc z159 fun b5=>?_
   refine .assign (.z (.seq (.sr (.move ?_))))
   refine .eqNil ?_ uu
   refine .move (.gT (.move (.gT (.nilCheck (.gT ?_)))))
   refine .fa ?_ fd
   refine .gT ?_
   refine .ld ?_ dj
   refine .gT ?_
   refine .eqNil ?_ km
   refine .pickF (.z ?_)
   refine .condF rfl rfl ?_
   refine .skip (.next (.sr (.move ?_)))
   refine .call (hc:=Tryz.call172) (sp:=lq hpl hpt) (h:=?_)
   rintro _ _ ⟨u,rfl,rfl⟩
   refine .fact (ae (el:=9) (size:=1) (v:=u) (k:=l.length) (xs:=svs l)) (fun ⟨A,cc,hu,hR,hc1,hc2,hlen⟩=>?_)
   subst hu
   refine .move ?_
   refine .extract (.extract ?_)
   refine .assign (.assign (.z (.seq (.sr (.move ?_)))))
   refine .nei (.z ?_)
   refine .condF rfl (cB9 (by first|simp;done|simp;omega|omega)) ?_
   refine .skip (.next (.sr (.move (.move ?_))))
   refine .call (hc:=Tryz.call173) (sp:=tp (f:=f) (s:=s) (a:=a) (c:=c) (mp:=mp) (b:=b) (ov:=ov) (dead:=dead) (p:=p) (T:=T) (F0:=F0) (W:=W) (op:=op) (l:=l) (R:=rowR 9 1 (.slice A l.length cc) l.length (svs l)) ho hT (.inl hR) rfl hl8) (h:=?_)
   rintro _ _ ⟨rfl,rfl⟩
   rw [hw]
   refine .move ?_
   refine .extract (.extract ?_)
   refine .assign (.assign (.z (.seq (.sr (.move ?_)))))
   refine .nei (.z ?_)
   refine .condT rfl (cB9 (by first|simp;done|simp;omega|omega)) ?_
   refine .sr ?_
   refine .build (cs:=#[nI 0,nI 0]) ?_ (fun w=>by kernel_rfl)
   refine .move (.assign ?_)
   refine .stV ?_ cw
   refine .assign (.z ?_)
   refine .ret (.thenRet (?_))
   exact .ret3 (h1:=.tmp (t:=4) rfl) (h3:=.tmp (t:=6) rfl) ⟨_,⟨by rw [hlt];rfl,rfl⟩,Am.auto⟩
theorem Dm {f s a c mp:Nat} {b ov dead:Bool} {p:Pl} {T:FT} {F0:FM} {W:Nat} {op:Bool} {path:aa} (ho:PlOk p) (hT:TOk T) (hpl:path.length<=1000000):Spec Tryz.prog 187 #[.pointer (some ⟨f,0,none⟩),sv path] [pt f (fO c a s b ov dead mp),LD mp T,IN s a c p F0 (fmT T) W op] fun F v M=>v=.tuple #[nI (qy T path).1,.agg #[nI (qy T path).2.1,nI (qy T path).2.2.1],nI (qy T path).2.2.2]/\M=pt f (fO c a s b ov dead mp) :: LD mp T :: IN s a c p F0 (fmT T) W op :: F:=by
 refine Spec.intro Tryz.func187 rfl rfl fun B F=>?_
 simp only [Tryz.ntmps187,List.cons_append,List.nil_append,env0,Nat.reduceAdd]
 obtain ⟨i,k,z,e,hlt⟩:∃ i k z e,fp T path=(i,k,z,e):=⟨_,_,_,_,rfl⟩
 have hft:qy T path=if e=0/\k≠1 then (0,0,0,6) else (i,k,z,e):=by unfold qy;rw [hlt]
 by_cases he:e=0
 ·subst he
  by_cases hk:k=1
  ·rw [if_neg (fun h=>h.2 hk)] at hft
   refine .sr (.assign ?_)
   refine .alloc z159 fun b5=>?_
   refine .assign (.x (.move (.move ?_)))
   refine .call (hc:=Tryz.call107) (sp:=xo (f:=f) (s:=s) (a:=a) (c:=c) (mp:=mp) (b:=b) (ov:=ov) (dead:=dead) (p:=p) (T:=T) (F0:=F0) (W:=W) (op:=op) (path:=path) ho hT hpl) (h:=?_)
   rintro _ _ ⟨rfl,rfl⟩
   rw [hlt]
   refine .move ?_
   refine .extract (.extract (.extract ?_))
   refine .alloc z159 fun b8=>?_
   refine .assign ?_
   refine .stV ?_ cw
   refine .assign (.z (.seq (.sr (.move ?_))))
   refine .eqi ?_
   refine .move ?_
   refine .cast (d:=19) (u:=.bool true) rfl (cB9 (by first|simp;done|simp;omega|omega)) ?_
   refine .gT ?_
   refine .fa ?_ pq
   refine .gT ?_
   refine .ld ?_ sc3
   refine .gT ?_
   refine .nei ?_
   refine .pickT (.z ?_)
   refine .condF rfl (cB9 (by first|simp;done|simp;omega|omega)) ?_
   refine .skip (.next (.seq ?_))
   refine .dr ([pt b8 (.cells #[nI k,nI z] 159 (0,0))]) [] 6 mixed .autoJ ?_
   refine .tk 0 rfl .move ?_
   refine .tk 1 rfl (.ldA cw) ?_
   refine .tk 2 rfl .move ?_
   refine .tk 3 rfl .assign ?_
   refine .on 4 rfl fun hnp=>?_
   refine .stV ?_ cw
   refine .nil (.wa hnp ?_)
   refine .tk 5 rfl .assign ?_
   refine .fin ?_
   refine .next (.ret (?_))
   exact .ret3 (h1:=.tmp (t:=4) rfl) (h3:=.tmp (t:=6) rfl) ⟨_,⟨by rw [hft];rfl,rfl⟩,Am.auto⟩
  ·rw [if_pos ⟨rfl,hk⟩] at hft
   refine .sr (.assign ?_)
   refine .alloc z159 fun b5=>?_
   refine .assign (.x (.move (.move ?_)))
   refine .call (hc:=Tryz.call107) (sp:=xo (f:=f) (s:=s) (a:=a) (c:=c) (mp:=mp) (b:=b) (ov:=ov) (dead:=dead) (p:=p) (T:=T) (F0:=F0) (W:=W) (op:=op) (path:=path) ho hT hpl) (h:=?_)
   rintro _ _ ⟨rfl,rfl⟩
   rw [hlt]
   refine .move ?_
   refine .extract (.extract (.extract ?_))
   refine .alloc z159 fun b8=>?_
   refine .assign ?_
   refine .stV ?_ cw
   refine .assign (.z (.seq (.sr (.move ?_))))
   refine .eqi ?_
   refine .move ?_
   refine .cast (d:=19) (u:=.bool true) rfl (cB9 (by first|simp;done|simp;omega|omega)) ?_
   refine .gT ?_
   refine .fa ?_ pq
   refine .gT ?_
   refine .ld ?_ sc3
   refine .gT ?_
   refine .nei ?_
   refine .pickT (.z ?_)
   refine .condT rfl (cB9 (by first|simp;done|simp;omega|omega)) ?_
   refine .sr ?_
   refine .build (cs:=#[nI 0,nI 0]) ?_ (fun w=>by kernel_rfl)
   refine .assign ?_
   refine .stV ?_ cw
   refine .assign (.z ?_)
   refine .ret (.thenRet (?_))
   exact .ret3 (h1:=.tmp (t:=4) rfl) (h3:=.tmp (t:=6) rfl) ⟨_,⟨by rw [hft];rfl,rfl⟩,Am.auto⟩
 ·rw [if_neg (fun h=>he h.1)] at hft
  refine .sr (.assign ?_)
  refine .alloc z159 fun b5=>?_
  refine .assign (.x (.move (.move ?_)))
  refine .call (hc:=Tryz.call107) (sp:=xo (f:=f) (s:=s) (a:=a) (c:=c) (mp:=mp) (b:=b) (ov:=ov) (dead:=dead) (p:=p) (T:=T) (F0:=F0) (W:=W) (op:=op) (path:=path) ho hT hpl) (h:=?_)
  rintro _ _ ⟨rfl,rfl⟩
  rw [hlt]
  refine .move ?_
  refine .extract (.extract (.extract ?_))
  refine .alloc z159 fun b8=>?_
  refine .assign ?_
  refine .stV ?_ cw
  refine .assign (.z (.seq (.sr (.move ?_))))
  refine .eqi ?_
  refine .move ?_
  refine .cast (d:=19) (u:=.bool false) rfl (cB9 (by first|simp;done|simp;omega|omega)) ?_
  refine .gF (.gF (.gF (.pickF (.z ?_))))
  refine .condF rfl rfl ?_
  refine .skip (.next (.seq ?_))
  refine .dr ([pt b8 (.cells #[nI k,nI z] 159 (0,0))]) [] 6 mixed .autoJ ?_
  refine .tk 0 rfl .move ?_
  refine .tk 1 rfl (.ldA cw) ?_
  refine .tk 2 rfl .move ?_
  refine .tk 3 rfl .assign ?_
  refine .on 4 rfl fun hnp=>?_
  refine .stV ?_ cw
  refine .nil (.wa hnp ?_)
  refine .tk 5 rfl .assign ?_
  refine .fin ?_
  refine .next (.ret (?_))
  exact .ret3 (h1:=.tmp (t:=4) rfl) (h3:=.tmp (t:=6) rfl) ⟨_,⟨by rw [hft];rfl,rfl⟩,Am.auto⟩
theorem M3 {f s a c mp:Nat} {b ov dead:Bool} {p:Pl} {T:FT} {F0:FM} {W:Nat} {op:Bool} {path:aa} (ho:PlOk p) (hT:TOk T) (hpl:path.length<=1000000):Spec Tryz.prog 112 #[.pointer (some ⟨f,0,none⟩),sv path] [pt f (fO c a s b ov dead mp),LD mp T,IN s a c p F0 (fmT T) W op] fun F v M=>v=.tuple #[nI (dx T path).1,sv (dx T path).2.1,nI (dx T path).2.2]/\M=pt f (fO c a s b ov dead mp) :: LD mp T :: IN s a c p F0 (fmT T) W op :: F:=by
 refine Spec.intro Tryz.func112 rfl rfl fun B F=>?_
 simp only [Tryz.ntmps112,List.cons_append,List.nil_append,env0,Nat.reduceAdd]
 cases hpt:ew path with
 | none =>
  have hlt:dx T path=(0,[],1):=by unfold dx;rw [hpt]
  refine .sr (.assign (.assign (.assign (.x (.move ?_)))))
  refine .call (hc:=Tryz.call172) (sp:=zn hpl hpt) (h:=?_)
  rintro _ _ ⟨rfl,rfl⟩
  refine .move ?_
  refine .extract (.extract ?_)
  refine .assign (.assign (.z (.seq (.sr (.move ?_)))))
  refine .nei (.z ?_)
  refine .condT rfl (cB9 (by first|simp;done|simp;omega|omega)) ?_
  refine .sr (.move (.assign (.assign (.assign (.z ?_)))))
  refine .ret (.thenRet (?_))
  exact .ret3 (h1:=.tmp (t:=4) rfl) (h2:=.tmp (t:=5) rfl) (h3:=.tmp (t:=6) rfl) ⟨_,⟨by rw [hlt];rfl,rfl⟩,Am.auto⟩
 | some l =>
  have hl8:=vm hpt
  by_cases hl0:l=[]
  ·have hl00:l.length=0:=by rw [hl0];rfl
   have hlt:dx T path=(0,[],1):=by unfold dx;simp only [hpt];rw [if_pos hl0]
   refine .sr (.assign (.assign (.assign (.x (.move ?_)))))
   refine .call (hc:=Tryz.call172) (sp:=lq hpl hpt) (h:=?_)
   rintro _ _ ⟨u,rfl,rfl⟩
   refine .fact (ae (el:=9) (size:=1) (v:=u) (k:=l.length) (xs:=svs l)) (fun ⟨A,cc,hu,hR,hc1,hc2,hlen⟩=>?_)
   subst hu
   refine .move ?_
   refine .extract (.extract ?_)
   refine .assign (.assign (.z (.seq (.sr (.move ?_)))))
   refine .nei (.z ?_)
   refine .condF rfl (cB9 (by first|simp;done|simp;omega|omega)) ?_
   refine .skip (.next (.seq (.sr (.move ?_))))
   refine .lenS ?_ sl62
   refine .eqi (.z ?_)
   refine .condT rfl (cB9 (by first|simp;done|simp;omega|omega)) ?_
   refine .sr (.assign (.assign (.assign (.z ?_))))
   refine .ret (.thenRet (?_))
   exact .ret3 (h1:=.tmp (t:=4) rfl) (h2:=.tmp (t:=5) rfl) (h3:=.tmp (t:=6) rfl) ⟨_,⟨by rw [hlt];rfl,rfl⟩,Am.auto⟩
  ·obtain ⟨N,hN⟩:∃ N,l.length=N+1:=⟨l.length - 1,by have:=List.length_pos_iff.2 hl0;omega⟩
   have hdl:l.dropLast=l.take N:=by rw [List.dropLast_eq_take,hN];rfl
   have hgl:l.getLastD []=l[N]'(by omega):=by
    have e1:l[l.length - 1]?=some (l[N]'(by omega)):=by rw [show l.length - 1=N from by omega];exact List.getElem?_eq_getElem _
    rw [List.getLastD_eq_getLast?,List.getLast?_eq_getElem?,e1];rfl
   obtain ⟨d,e,hw⟩:∃ d e,de T 0 (l.take N)=(d,e):=⟨_,_,rfl⟩
   have hlt:dx T path=if e=0 then (match T d with | some (.dir _)=>(d,l[N]'(by omega),0) | _=>(0,[],6)) else (0,[],e):=by unfold dx;simp only [hpt];rw [if_neg hl0,hdl,hgl,hw];first | done | rfl
   have htl:(svs l).take N=svs (l.take N):=List.map_take.symm
   by_cases he:e=0
   ·subst he
    rw [if_pos rfl] at hlt
    cases hTi:T d with
    | none =>
     simp only [hTi] at hlt
     refine .sr (.assign (.assign (.assign (.x (.move ?_)))))
     refine .call (hc:=Tryz.call172) (sp:=lq hpl hpt) (h:=?_)
     rintro _ _ ⟨u,rfl,rfl⟩
     refine .fact (ae (el:=9) (size:=1) (v:=u) (k:=l.length) (xs:=svs l)) (fun ⟨A,cc,hu,hR,hc1,hc2,hlen⟩=>?_)
     subst hu
     rcases A with _ | ⟨ab,ao,asp⟩
     ·exact absurd hR (fun h=>by have h2:svs l=[]:=h;have hll:=df l;rw [h2] at hll;simp at hll;omega)
     have hsp:asp=none:=hR.1
     subst hsp
     refine .move ?_
     refine .extract (.extract ?_)
     refine .assign (.assign (.z (.seq (.sr (.move ?_)))))
     refine .nei (.z ?_)
     refine .condF rfl (cB9 (by first|simp;done|simp;omega|omega)) ?_
     refine .skip (.next (.seq (.sr (.move ?_))))
     refine .lenS ?_ sl62
     refine .eqi (.z ?_)
     refine .condF rfl (cB9 (by first|simp;done|simp;omega|omega)) ?_
     refine .skip (.next (.sr (.move ?_)))
     refine .lenS ?_ sl62
     refine .sub ?_
     refine .cast (d:=24) (u:=.int .i64 (N:Int)) rfl (cI9 (by omega)) ?_
     refine .assign (.z (.seq (.sr (.move (.move (.move ?_))))))
     refine .slcH ?_ so62
     refine .call (hc:=Tryz.call173) (sp:=tp (f:=f) (s:=s) (a:=a) (c:=c) (mp:=mp) (b:=b) (ov:=ov) (dead:=dead) (p:=p) (T:=T) (F0:=F0) (W:=W) (op:=op) (l:=l.take N) (R:=rowR 9 1 (.slice (some ⟨ab,ao,none⟩) l.length cc) l.length (svs l)) ho hT (.inl (htl ▸ hR.take N)) (by rw [List.length_take];omega) (by omega)) (h:=?_)
     rintro _ _ ⟨rfl,rfl⟩
     rw [hw]
     refine .move ?_
     refine .extract (.extract (.assign (.assign (.x (.move ?_)))))
     refine .nei (.z ?_)
     refine .condF rfl (cB9 (by first|simp;done|simp;omega|omega)) ?_
     refine .skip (.next (.seq (.sr (.move (.nilCheck ?_)))))
     refine .fa ?_ fc
     refine .ld ?_ pw
     refine .move ?_
     refine .call (hc:=Tryz.call174) (sp:=Dl (s:=s) (a:=a) (c:=c) (p:=p) (F0:=F0) (T:=T) (W:=W) (op:=op) (i:=d) ho hTi) (h:=?_)
     rintro _ _ ⟨rfl,rfl⟩
     refine .move ?_
     refine .extract (.extract ?_)
     refine .alloc z159 fun b9=>?_
     refine .stV ?_ cw
     refine .assign (.x (.move ?_))
     refine .nei ?_
     refine .move ?_
     refine .cast (d:=47) (u:=.bool true) rfl (cB9 (by first|simp;done|simp;omega|omega)) ?_
     refine .gF (.gF (.gF (.pickT (.z ?_))))
     refine .condT rfl rfl ?_
     refine .sr (.assign (.assign (.assign (.z ?_))))
     refine .ret (.thenRet (?_))
     exact .ret3 (h1:=.tmp (t:=4) rfl) (h2:=.tmp (t:=5) rfl) (h3:=.tmp (t:=6) rfl) ⟨_,⟨by rw [hlt];rfl,rfl⟩,Am.auto⟩
    | some x =>
     cases x with
     | file fb =>
      simp only [hTi] at hlt
      refine .sr (.assign (.assign (.assign (.x (.move ?_)))))
      refine .call (hc:=Tryz.call172) (sp:=lq hpl hpt) (h:=?_)
      rintro _ _ ⟨u,rfl,rfl⟩
      refine .fact (ae (el:=9) (size:=1) (v:=u) (k:=l.length) (xs:=svs l)) (fun ⟨A,cc,hu,hR,hc1,hc2,hlen⟩=>?_)
      subst hu
      rcases A with _ | ⟨ab,ao,asp⟩
      ·exact absurd hR (fun h=>by have h2:svs l=[]:=h;have hll:=df l;rw [h2] at hll;simp at hll;omega)
      have hsp:asp=none:=hR.1
      subst hsp
      refine .move ?_
      refine .extract (.extract ?_)
      refine .assign (.assign (.z (.seq (.sr (.move ?_)))))
      refine .nei (.z ?_)
      refine .condF rfl (cB9 (by first|simp;done|simp;omega|omega)) ?_
      refine .skip (.next (.seq (.sr (.move ?_))))
      refine .lenS ?_ sl62
      refine .eqi (.z ?_)
      refine .condF rfl (cB9 (by first|simp;done|simp;omega|omega)) ?_
      refine .skip (.next (.sr (.move ?_)))
      refine .lenS ?_ sl62
      refine .sub ?_
      refine .cast (d:=24) (u:=.int .i64 (N:Int)) rfl (cI9 (by omega)) ?_
      refine .assign (.z (.seq (.sr (.move (.move (.move ?_))))))
      refine .slcH ?_ so62
      refine .call (hc:=Tryz.call173) (sp:=tp (f:=f) (s:=s) (a:=a) (c:=c) (mp:=mp) (b:=b) (ov:=ov) (dead:=dead) (p:=p) (T:=T) (F0:=F0) (W:=W) (op:=op) (l:=l.take N) (R:=rowR 9 1 (.slice (some ⟨ab,ao,none⟩) l.length cc) l.length (svs l)) ho hT (.inl (htl ▸ hR.take N)) (by rw [List.length_take];omega) (by omega)) (h:=?_)
      rintro _ _ ⟨rfl,rfl⟩
      rw [hw]
      refine .move ?_
      refine .extract (.extract (.assign (.assign (.x (.move ?_)))))
      refine .nei (.z ?_)
      refine .condF rfl (cB9 (by first|simp;done|simp;omega|omega)) ?_
      refine .skip (.next (.seq (.sr (.move (.nilCheck ?_)))))
      refine .fa ?_ fc
      refine .ld ?_ pw
      refine .move ?_
      refine .call (hc:=Tryz.call174) (sp:=I1 (s:=s) (a:=a) (c:=c) (p:=p) (F0:=F0) (T:=T) (W:=W) (op:=op) (i:=d) ho hTi) (h:=?_)
      rintro _ _ ⟨rfl,rfl⟩
      simp only [NodeT.kind,NodeT.size]
      refine .move ?_
      refine .extract (.extract ?_)
      refine .alloc z159 fun b9=>?_
      refine .stV ?_ cw
      refine .assign (.x (.move ?_))
      refine .nei ?_
      refine .move ?_
      refine .cast (d:=47) (u:=.bool false) rfl (cB9 (by first|simp;done|simp;omega|omega)) ?_
      refine .gT ?_
      refine .fa ?_ pq
      refine .gT ?_
      refine .ld ?_ sc3
      refine .gT ?_
      refine .nei ?_
      refine .pickF (.z ?_)
      refine .condT rfl (cB9 (by first|simp;done|simp;omega|omega)) ?_
      refine .sr (.assign (.assign (.assign (.z ?_))))
      refine .ret (.thenRet (?_))
      exact .ret3 (h1:=.tmp (t:=4) rfl) (h2:=.tmp (t:=5) rfl) (h3:=.tmp (t:=6) rfl) ⟨_,⟨by rw [hlt];rfl,rfl⟩,Am.auto⟩
     | dir sl =>
      simp only [hTi] at hlt
      have hgk:(svs l)[((N:Nat):Int).toNat]?=some (sv (l[N]'(by omega))):=Br (by omega)
      refine .sr (.assign (.assign (.assign (.x (.move ?_)))))
      refine .call (hc:=Tryz.call172) (sp:=lq hpl hpt) (h:=?_)
      rintro _ _ ⟨u,rfl,rfl⟩
      refine .fact (ae (el:=9) (size:=1) (v:=u) (k:=l.length) (xs:=svs l)) (fun ⟨A,cc,hu,hR,hc1,hc2,hlen⟩=>?_)
      subst hu
      rcases A with _ | ⟨ab,ao,asp⟩
      ·exact absurd hR (fun h=>by have h2:svs l=[]:=h;have hll:=df l;rw [h2] at hll;simp at hll;omega)
      have hsp:asp=none:=hR.1
      subst hsp
      refine .move ?_
      refine .extract (.extract ?_)
      refine .assign (.assign (.z (.seq (.sr (.move ?_)))))
      refine .nei (.z ?_)
      refine .condF rfl (cB9 (by first|simp;done|simp;omega|omega)) ?_
      refine .skip (.next (.seq (.sr (.move ?_))))
      refine .lenS ?_ sl62
      refine .eqi (.z ?_)
      refine .condF rfl (cB9 (by first|simp;done|simp;omega|omega)) ?_
      refine .skip (.next (.sr (.move ?_)))
      refine .lenS ?_ sl62
      refine .sub ?_
      refine .cast (d:=24) (u:=.int .i64 (N:Int)) rfl (cI9 (by omega)) ?_
      refine .assign (.z (.seq (.sr (.move (.move (.move ?_))))))
      refine .slcH ?_ so62
      refine .call (hc:=Tryz.call173) (sp:=tp (f:=f) (s:=s) (a:=a) (c:=c) (mp:=mp) (b:=b) (ov:=ov) (dead:=dead) (p:=p) (T:=T) (F0:=F0) (W:=W) (op:=op) (l:=l.take N) (R:=rowR 9 1 (.slice (some ⟨ab,ao,none⟩) l.length cc) l.length (svs l)) ho hT (.inl (htl ▸ hR.take N)) (by rw [List.length_take];omega) (by omega)) (h:=?_)
      rintro _ _ ⟨rfl,rfl⟩
      rw [hw]
      refine .move ?_
      refine .extract (.extract (.assign (.assign (.x (.move ?_)))))
      refine .nei (.z ?_)
      refine .condF rfl (cB9 (by first|simp;done|simp;omega|omega)) ?_
      refine .skip (.next (.seq (.sr (.move (.nilCheck ?_)))))
      refine .fa ?_ fc
      refine .ld ?_ pw
      refine .move ?_
      refine .call (hc:=Tryz.call174) (sp:=I1 (s:=s) (a:=a) (c:=c) (p:=p) (F0:=F0) (T:=T) (W:=W) (op:=op) (i:=d) ho hTi) (h:=?_)
      rintro _ _ ⟨rfl,rfl⟩
      simp only [NodeT.kind,NodeT.size]
      refine .move ?_
      refine .extract (.extract ?_)
      refine .alloc z159 fun b9=>?_
      refine .stV ?_ cw
      refine .assign (.x (.move ?_))
      refine .nei ?_
      refine .move ?_
      refine .cast (d:=47) (u:=.bool false) rfl (cB9 (by first|simp;done|simp;omega|omega)) ?_
      refine .gT ?_
      refine .fa ?_ pq
      refine .gT ?_
      refine .ld ?_ sc3
      refine .gT ?_
      refine .nei ?_
      refine .pickF (.z ?_)
      refine .condF rfl (cB9 (by first|simp;done|simp;omega|omega)) ?_
      refine .skip (.next (.seq ?_))
      refine .dr ([rowR 9 1 (.slice (some ⟨ab,ao,none⟩) l.length cc) l.length (svs l)]) [] 8 mixed .autoJ ?_
      refine .tk 0 rfl .move ?_
      refine .tk 1 rfl .move ?_
      refine .tk 2 rfl .move ?_
      refine .tk 3 rfl (.idx1 so62) ?_
      refine .tk 4 rfl (Qt.ldR (i:=((N:Nat):Int).toNat) sc9 hR hgk) ?_
      refine .tk 5 rfl .assign ?_
      refine .tk 6 rfl .assign ?_
      refine .tk 7 rfl .assign ?_
      refine .fin ?_
      refine .next (.ret (?_))
      exact .ret3 (h1:=.tmp (t:=4) rfl) (h2:=.tmp (t:=5) rfl) (h3:=.tmp (t:=6) rfl) ⟨_,⟨by rw [hlt];rfl,rfl⟩,Am.auto⟩
   ·rw [if_neg he] at hlt
    refine .sr (.assign (.assign (.assign (.x (.move ?_)))))
    refine .call (hc:=Tryz.call172) (sp:=lq hpl hpt) (h:=?_)
    rintro _ _ ⟨u,rfl,rfl⟩
    refine .fact (ae (el:=9) (size:=1) (v:=u) (k:=l.length) (xs:=svs l)) (fun ⟨A,cc,hu,hR,hc1,hc2,hlen⟩=>?_)
    subst hu
    rcases A with _ | ⟨ab,ao,asp⟩
    ·exact absurd hR (fun h=>by have h2:svs l=[]:=h;have hll:=df l;rw [h2] at hll;simp at hll;omega)
    have hsp:asp=none:=hR.1
    subst hsp
    refine .move ?_
    refine .extract (.extract ?_)
    refine .assign (.assign (.z (.seq (.sr (.move ?_)))))
    refine .nei (.z ?_)
    refine .condF rfl (cB9 (by first|simp;done|simp;omega|omega)) ?_
    refine .skip (.next (.seq (.sr (.move ?_))))
    refine .lenS ?_ sl62
    refine .eqi (.z ?_)
    refine .condF rfl (cB9 (by first|simp;done|simp;omega|omega)) ?_
    refine .skip (.next (.sr (.move ?_)))
    refine .lenS ?_ sl62
    refine .sub ?_
    refine .cast (d:=24) (u:=.int .i64 (N:Int)) rfl (cI9 (by omega)) ?_
    refine .assign (.z (.seq (.sr (.move (.move (.move ?_))))))
    refine .slcH ?_ so62
    refine .call (hc:=Tryz.call173) (sp:=tp (f:=f) (s:=s) (a:=a) (c:=c) (mp:=mp) (b:=b) (ov:=ov) (dead:=dead) (p:=p) (T:=T) (F0:=F0) (W:=W) (op:=op) (l:=l.take N) (R:=rowR 9 1 (.slice (some ⟨ab,ao,none⟩) l.length cc) l.length (svs l)) ho hT (.inl (htl ▸ hR.take N)) (by rw [List.length_take];omega) (by omega)) (h:=?_)
    rintro _ _ ⟨rfl,rfl⟩
    rw [hw]
    refine .move ?_
    refine .extract (.extract (.assign (.assign (.x (.move ?_)))))
    refine .nei (.z ?_)
    refine .condT rfl (cB9 (by first|simp;done|simp;omega|omega)) ?_
    refine .sr (.move (.assign (.assign (.assign (.z ?_)))))
    refine .ret (.thenRet (?_))
    exact .ret3 (h1:=.tmp (t:=4) rfl) (h2:=.tmp (t:=5) rfl) (h3:=.tmp (t:=6) rfl) ⟨_,⟨by rw [hlt];rfl,rfl⟩,Am.auto⟩
theorem Q8 :ad Tryz.prog 133 5 5=true:=by kernel_rfl
theorem pz :ad Tryz.prog 133 3 3=true:=by kernel_rfl
def bun (Ls:List HP):HP:=fun h=>∃ _:Unit,True/\star Ls h
theorem bun.opens (Ls:List HP):Opens (bun Ls) (fun _:Unit=>True) (fun _=>Ls):=⟨fun h hh=>hh,fun x hp h hh=>⟨x,hp,hh⟩⟩
theorem bun.nil :bun [] (fun _=>none):=⟨(),trivial,by unfold star;exact ⟨[],trivial⟩⟩
attribute [irreducible] bun
theorem I2 {f s a c mp:Nat} {b ov dead:Bool}:Spec Tryz.prog 89 #[.pointer (some ⟨f,0,none⟩)] [pt f (fO c a s b ov dead mp)] fun F v M=>v=.bool dead/\M=pt f (fO c a s b ov dead mp) :: F:=by
 refine Spec.intro Tryz.func89 rfl rfl fun B F=>?_
 simp only [Tryz.ntmps89,List.cons_append,List.nil_append,env0,Nat.reduceAdd]
 refine .sr (.assign (.x (.move ?_)))
 refine .eqNil ?_ uu
 refine .move (.gT (.move (.gT (.nilCheck (.gT ?_)))))
 refine .fa ?_ fd
 refine .gT ?_
 refine .ld ?_ dj
 refine .gT ?_
 refine .eqNil ?_ km
 refine .pickF (.move (.gT (.move (.gT (.nilCheck ?_)))))
 refine .gT ?_
 refine .fa ?_ Q8
 refine .gT ?_
 refine .ld ?_ sc4
 refine .pickF (.assign (.z (.ret (?_))))
 exact .ret1 (h1:=.tmp (t:=2) rfl) ⟨_,⟨rfl,rfl⟩,Am.auto⟩
theorem Dn {f s a c mp:Nat} {b ov dead:Bool} {T S:FT}:Spec Tryz.prog 92 #[.pointer (some ⟨f,0,none⟩)] [pt f (fO c a s b ov dead mp),LD mp S] fun F v M=>v=.tuple #[]/\M=pt f (fO c a s b ov dead mp) :: LD mp T :: F:=by
 refine Spec.intro Tryz.func92 rfl rfl fun B F=>?_
 simp only [Tryz.ntmps92,List.cons_append,List.nil_append,env0,Nat.reduceAdd]
 refine .openR (LD.opens mp S) fun y hy=>?_
 obtain ⟨es,cl,kv⟩:=y
 simp only [List.cons_append,List.nil_append]
 refine .region (.move (.nilCheck ?_))
 refine .fa ?_ pu
 refine .ld ?_ Fa
 refine .clearM ?_ Fb
 refine .nil ?_
 refine .shutR (LD.opens mp T) (#[],cl,[]) (LDP.empty T cl) ?_
 exact .ret0 ⟨_,⟨rfl,rfl⟩,Am.auto⟩
theorem I3 {f s a c mp:Nat} {b ov dead:Bool} {T S:FT}:SpecD Tryz.prog 92 #[.pointer (some ⟨f,0,none⟩)] [pt f (fO c a s b ov dead mp),LD mp S] fun F v M=>v=.tuple #[]/\M=pt f (fO c a s b ov dead mp) :: LD mp T :: F:=by
 refine SpecD.intro Tryz.func92 rfl rfl fun B F=>?_
 simp only [Tryz.ntmps92,List.cons_append,List.nil_append,env0,Nat.reduceAdd]
 refine .openR (LD.opens mp S) fun y hy=>?_
 obtain ⟨es,cl,kv⟩:=y
 simp only [List.cons_append,List.nil_append]
 refine .region (.move (.nilCheck ?_))
 refine .fa ?_ pu
 refine .ld ?_ Fa
 refine .clearM ?_ Fb
 refine .nil ?_
 refine .shutR (LD.opens mp T) (#[],cl,[]) (LDP.empty T cl) ?_
 exact .ret0 ⟨_,⟨rfl,rfl⟩,Am.auto⟩
theorem fsEnd {f s a c mp:Nat} {b ov dead:Bool} {T S:FT} {p:Pl} {F0 Fm:FM} {W:Nat} (ho:PlOk p):Spec Tryz.prog 166 #[.pointer (some ⟨f,0,none⟩)] [pt f (fO c a s b ov dead mp),LD mp S,IN s a c p F0 Fm W true] fun F v M=>v=okV/\M=pt f (fO c a s b ov dead mp) :: LD mp T :: IN s a c p Fm Fm 0 false :: F:=by
 refine Spec.intro Tryz.func166 rfl rfl fun B F=>?_
 simp only [Tryz.ntmps166,List.cons_append,List.nil_append,env0,Nat.reduceAdd]
 refine .sr (.assign (.x (.move ?_)))
 refine .call (hc:=Tryz.call92) (sp:=Dn (f:=f) (s:=s) (a:=a) (c:=c) (mp:=mp) (b:=b) (ov:=ov) (dead:=dead) (S:=S) (T:=T)) (h:=?_)
 rintro _ _ ⟨rfl,rfl⟩
 refine .x (.move (.nilCheck ?_))
 refine .fa ?_ fd
 refine .ld ?_ dj
 refine .call (hc:=Tryz.call82) (sp:=Qv (s:=s) (a:=a) (c:=c) (p:=p) (F0:=F0) (F:=Fm) (W:=W) ho) (h:=?_)
 rintro _ _ ⟨rfl,rfl⟩
 refine .assign (.z (.seq (.sr (.move ?_))))
 refine .eqi (.z ?_)
 refine .condF rfl (cB9 (by first|simp;done|simp;omega|omega)) ?_
 refine .skip (.next (.sr (.move (.assign (.z ?_)))))
 refine .ret (?_)
 exact .ret1 (h1:=.tmp (t:=2) rfl) ⟨_,⟨rfl,rfl⟩,Am.auto⟩
theorem sc29 :ai Tryz.prog 29=true:=by kernel_rfl
theorem sc250 :ai Tryz.prog 250=true:=by kernel_rfl
theorem M4 {T:FT} {d:Nat} {nm:aa} {sl:List Slot} (h:(d7 T d nm).2=4) (hd:T d=some (.dir sl)):am nm=true/\jz nm sl=none:=by
 unfold d7 at h
 split at h
 ·rename_i hn
  refine ⟨hn,?_⟩
  simp only [hd] at h
  split at h
  ·cases h
  ·assumption
 ·cases h
def NodeT.empty :NodeT->Prop
 | .file b=>b=[]
 | .dir sl=>sl=[]
theorem NodeT.empty_f {x:NodeT} (h:x.empty):x.f=(x.kind,[]):=by
 cases x with
 | file b=>cases h;rfl
 | dir sl=>cases h;rfl
def mkT (T:FT) (d:Nat) (sl:List Slot) (nm:aa) (i:Nat) (x:NodeT):FT:=updT (updT T i (some x)) d (some (.dir (setS sl (d6 sl) (some (nm,i)))))
def fsLs (f:Nat) (p:Pl) (T:FT) (y:Nat×Nat×Nat×Nat):List HP:=[pt f (fO y.1 y.2.1 y.2.2.1 false false false y.2.2.2),LD y.2.2.2 T,IN y.2.2.1 y.2.1 y.1 p (fmT T) (fmT T) 0 false]
def FSR (f:Nat) (p:Pl) (T:FT):HP:=fun h=>∃ y,True/\star (fsLs f p T y) h
theorem FSR.opens (f:Nat) (p:Pl) (T:FT):Opens (FSR f p T) (fun _=>True) (fsLs f p T):=⟨fun h hh=>hh,fun x hp h hh=>⟨x,hp,hh⟩⟩
attribute [irreducible] FSR
theorem T1 {f:Nat} {p:Pl} {T:FT} {path:aa} (ho:PlOk p) (hT:TOk T) (hpl:path.length<=1000000) {at' n i z:Nat} {fb:aa} (hft:qy T path=(i,1,z,0)) (hTi:T i=some (.file fb)) (hat:at'<=9223372036854775807) (hn:n<=9223372036854775807):Spec Tryz.prog 116 #[.pointer (some ⟨f,0,none⟩),sv path,nI at',nI n] [FSR f p T] fun F v M=>∃ u,v=.tuple #[u,.int .i64 0]/\M=rowR 5 1 u ((fb.drop at').take n).length (bvs ((fb.drop at').take n)) :: FSR f p T :: F:=by
 refine Spec.intro Tryz.func116 rfl rfl fun B F=>?_
 simp only [Tryz.ntmps116,List.cons_append,List.nil_append,env0,Nat.reduceAdd]
 refine .openR (FSR.opens f p T) fun y _=>?_
 obtain ⟨c,a,s,mp⟩:=y
 simp only [fsLs,List.cons_append,List.nil_append]
 refine .sr (.assign (.assign (.x (.move (.move ?_)))))
 refine .call (hc:=Tryz.call187) (sp:=Dm (f:=f) (s:=s) (a:=a) (c:=c) (mp:=mp) (b:=false) (ov:=false) (dead:=false) (p:=p) (T:=T) (F0:=fmT T) (W:=0) (op:=false) (path:=path) ho hT hpl) (h:=?_)
 rintro _ _ ⟨rfl,rfl⟩
 rw [hft]
 refine .move ?_
 refine .extract (.extract (.extract ?_))
 refine .alloc z159 fun b11=>?_
 refine .assign ?_
 refine .stV ?_ cw
 refine .assign (.z (.seq (.sr (.move ?_))))
 refine .nei (.z ?_)
 refine .condF rfl (cB9 (by first|simp;done|simp;omega|omega)) ?_
 refine .skip (.next (.sr (.move (.nilCheck ?_))))
 refine .fa ?_ fc
 refine .ld ?_ pw
 refine .move (.move (.move ?_))
 refine .call (hc:=Tryz.call188) (sp:=Tn (s:=s) (a:=a) (c:=c) (p:=p) (F0:=fmT T) (F:=fmT T) (W:=0) (op:=false) (i:=i) (at':=at') (k:=n) (f:=(1,fb)) ho (ep hTi) hat hn) (h:=?_)
 rintro _ _ ⟨u,rfl,rfl⟩
 refine .extract (.extract (.assign (.assign (.z (.ret (?_))))))
 refine .shutR (FSR.opens f p T) (c,a,s,mp) trivial ?_
 exact .ret2 (h1:=.tmp (t:=8) rfl) (h2:=.tmp (t:=9) rfl) ⟨_,⟨u,rfl,rfl⟩,Am.auto⟩
theorem xp {a b:Nat} (h:a<=b):has a<=has b:=by
 unfold has dat
 split<;>split<;>omega
theorem Bs :ad Tryz.prog 133 4 4=true:=by kernel_rfl
open Go.Shelf Go.RowKit Go.Maps
def Fe :Go.Shelf.Ren:=⟨fun | 5=>164 | 7=>226 | n=>n,fun | 4=>4 | 20=>20 | 23=>140 | 25=>3 | 3=>200 | n=>n,fun n=>n⟩
theorem T3 :SlLaysW.n5 Tryz.prog Fe where
 mixed:=by kernel_rfl
 f5 := ⟨ "maps.Clone[map[int][512]byte,int,[512]byte]", by decide, Tryz.func164.trans (congrArg some (by kernel_rfl))⟩
 f7:=Tryz.func226.trans (congrArg some (by kernel_rfl))
 t4:=Tryz.underlying4
 a4:=Tryz.isAgg4
 z4:=Tryz.sizeOf4
 v4:=Tryz.zeroValue4
 t20:=Tryz.underlying20
 a20:=Tryz.isAgg20
 z20:=Tryz.sizeOf20
 v20:=Tryz.zeroValue20
 t23:=Tryz.underlying140
 a23:=Tryz.isAgg140
 z23:=Tryz.sizeOf140
 v23:=Tryz.zeroValue140
theorem M5 {m cc:Nat} {es:Array MapEntry}:Spec Tryz.prog 164 #[.map (some m)] [pt m (.map es cc)] fun F v M=>∃ m',v=.map (some m')/\M=pt m (.map es cc) :: F:=by
 intro B F w hs
 have hm:=hs.get (b:=m) Mem.here
 refine (AnyW.maps_Clone T3 m es cc w hm).mono ?_
 rintro e w' ⟨rfl,rfl⟩
 exact ⟨_,_,rfl,⟨_,rfl,rfl⟩,(hs.new (.map es cc)).tail⟩
theorem cMark {c j d n:Nat} {S:CS}:Spec Tryz.prog 90 #[.pointer (some ⟨c,0,none⟩)] [CR c j d n S] fun F v M=>∃ m,v=.map (some m)/\M=CR c j d n S :: F:=by
 refine Spec.intro Tryz.func90 rfl rfl fun B F=>?_
 simp only [Tryz.ntmps90,List.cons_append,List.nil_append,env0,Nat.reduceAdd]
 refine .openR (CR.opens c j d n S) fun x hp=>?_
 simp only [cL,List.cons_append,List.nil_append]
 refine .sr (.assign (.x (.move (.nilCheck ?_))))
 refine .fa ?_ jt
 refine .ld ?_ wz
 refine .call (hc:=Tryz.call164) (sp:=M5) (h:=?_)
 rintro _ _ ⟨m2,rfl,rfl⟩
 refine .assign (.z (.ret (?_)))
 refine .shutR (CR.opens c j d n S) x hp ?_
 exact .ret1 (h1:=.tmp (t:=2) rfl) ⟨_,⟨m2,rfl,rfl⟩,Am.auto⟩
theorem cOver {c j d n:Nat} {S:CS}:Spec Tryz.prog 180 #[.pointer (some ⟨c,0,none⟩)] [CR c j d n S] fun F v M=>v=.bool S.ov/\M=CR c j d n S :: F:=by
 refine Spec.intro Tryz.func180 rfl rfl fun B F=>?_
 simp only [Tryz.ntmps180,List.cons_append,List.nil_append,env0,Nat.reduceAdd]
 refine .openR (CR.opens c j d n S) fun x hp=>?_
 simp only [cL,List.cons_append,List.nil_append]
 refine .sr (.assign (.x (.move ?_)))
 refine .neNil ?_ km
 refine .move (.gT (.move (.gT (.nilCheck (.gT ?_)))))
 refine .fa ?_ Gp
 refine .gT ?_
 refine .ld ?_ sc4
 refine .pickT (.assign (.z (.ret (?_))))
 refine .shutR (CR.opens c j d n S) x hp ?_
 exact .ret1 (h1:=.tmp (t:=2) rfl) ⟨_,⟨rfl,rfl⟩,Am.auto⟩
theorem tMark {c n:Nat} {V0 V:Nat->aa} {D:List Nat} {op:Bool}:Spec Tryz.prog 90 #[.pointer (some ⟨c,0,none⟩)] [TR c n V0 V D op] fun F v M=>∃ m,v=.map (some m)/\M=TR c n V0 V D op :: F:=by
 refine Spec.opens (TR.opens c n V0 V D op) fun y hy=>(cMark (c:=c) (j:=y.1) (d:=y.2.1) (n:=n) (S:=y.2.2)).post ?_
 rintro F v M ⟨m,rfl,rfl⟩
 exact ⟨_,⟨m,rfl,rfl⟩,Wk.shutR (TR.opens c n V0 V D op) y hy⟩
theorem tOver {c n:Nat} {V0 V:Nat->aa} {D:List Nat}:Spec Tryz.prog 180 #[.pointer (some ⟨c,0,none⟩)] [TR c n V0 V D true] fun F v M=>v=.bool false/\M=TR c n V0 V D true :: F:=by
 refine Spec.opens (TR.opens c n V0 V D true) fun y hy=>(cOver (c:=c) (j:=y.1) (d:=y.2.1) (n:=n) (S:=y.2.2)).post ?_
 rintro F v M ⟨rfl,rfl⟩
 exact ⟨_,⟨cB9 (hy.ov rfl),rfl⟩,Wk.shutR (TR.opens c n V0 V D true) y hy⟩
theorem nMark {s a c:Nat} {p:Pl} {F0 F:FM} {W:Nat} {op:Bool}:Spec Tryz.prog 90 #[.pointer (some ⟨c,0,none⟩)] [IN s a c p F0 F W op] fun G v M=>∃ m,v=.map (some m)/\M=IN s a c p F0 F W op :: G:=by
 refine Spec.opens (IN.opens s a c p F0 F W op) fun y hy=>((tMark (c:=c) (n:=p.n) (V0:=y.1) (V:=y.2.1) (D:=y.2.2)).last).post ?_
 rintro G v M ⟨m,rfl,rfl⟩
 exact ⟨_,⟨m,rfl,rfl⟩,Wk.trans (Am.wk Am.auto) (Wk.shutR (M:=G) (IN.opens s a c p F0 F W op) y hy)⟩
theorem nOver {s a c:Nat} {p:Pl} {F0 F:FM} {W:Nat}:Spec Tryz.prog 180 #[.pointer (some ⟨c,0,none⟩)] [IN s a c p F0 F W true] fun G v M=>v=.bool false/\M=IN s a c p F0 F W true :: G:=by
 refine Spec.opens (IN.opens s a c p F0 F W true) fun y hy=>((tOver (c:=c) (n:=p.n) (V0:=y.1) (V:=y.2.1) (D:=y.2.2)).last).post ?_
 rintro G v M ⟨rfl,rfl⟩
 exact ⟨_,⟨rfl,rfl⟩,Wk.trans (Am.wk Am.auto) (Wk.shutR (M:=G) (IN.opens s a c p F0 F W true) y hy)⟩
theorem zo {f s a c mp:Nat} {p:Pl} {T S:FT} {F0 F1:FM} {W0 W:Nat} {R R':HP} {k:FuncId} {cap:Array Value} (hc:∀ args w,(callFunc k args).run Tryz.prog w=.ok (.enter k args) w)
  (sp:Spec Tryz.prog k cap [pt f (fO c a s true false false mp),LD mp S,IN s a c p F0 (fmT S) W0 true,R] fun F v M=>v=okV/\M=pt f (fO c a s true false false mp) :: LD mp S :: IN s a c p F0 F1 W true :: R' :: F):Spec Tryz.prog 110 #[.pointer (some ⟨f,0,none⟩),.func (.func k) #[] cap] [pt f (fO c a s true false false mp),LD mp S,IN s a c p F0 (fmT S) W0 true,R] fun F v M=>v=okV/\M=pt f (fO c a s true false false mp) :: LD mp T :: IN s a c p F0 F1 W true :: R' :: F:=by
 refine Spec.introD Tryz.func110 rfl rfl fun B F=>?_
 simp only [Tryz.ntmps110,List.cons_append,List.nil_append,env0,Nat.reduceAdd]
 have sp':=sp
 rw [show cap=(([]:List Value)).toArray++cap from by simp] at sp'
 refine .sr (.assign (.z (.seq (.sr (.move ?_)))))
 refine .call (hc:=Tryz.call89) (sp:=I2 (f:=f) (s:=s) (a:=a) (c:=c) (mp:=mp) (b:=true) (ov:=false) (dead:=false)) (h:=?_)
 rintro _ _ ⟨rfl,rfl⟩
 refine .z ?_
 refine .condF rfl rfl ?_
 refine .skip (.next (.sr (.move ?_)))
 refine .call (hc:=Tryz.call92) (sp:=Dn (f:=f) (s:=s) (a:=a) (c:=c) (mp:=mp) (b:=true) (ov:=false) (dead:=false) (S:=S) (T:=S)) (h:=?_)
 rintro _ _ ⟨rfl,rfl⟩
 refine .x (.move ?_)
 refine .defer ?_
 refine .z (.seq (.sr (.move (.nilCheck ?_))))
 refine .fa ?_ pz
 refine .ld ?_ sc4
 refine .not (.z ?_)
 refine .condF rfl rfl ?_
 refine .skip (.next (.seq (.sr (.move (.nilCheck ?_)))))
 refine .fa ?_ Bs
 refine .ld ?_ sc4
 refine .z ?_
 refine .condF rfl rfl ?_
 refine .skip (.next (.sr (.move (.nilCheck ?_))))
 refine .fa ?_ fd
 refine .ld ?_ dj
 refine .call (hc:=Tryz.call90) (sp:=nMark (s:=s) (a:=a) (c:=c) (p:=p) (F0:=F0) (F:=fmT S) (W:=W0) (op:=true)) (h:=?_)
 rintro _ _ ⟨m2,rfl,rfl⟩
 refine .assign (.x (.move ?_))
 refine .callV (hc:=hc) (sp:=sp') (h:=?_)
 rintro _ _ ⟨rfl,rfl⟩
 refine .assign (.z (.seq (.sr (.move ?_))))
 refine .nei (.z ?_)
 refine .condF rfl rfl ?_
 refine .skip (.next (.seq (.sr (.move (.nilCheck ?_)))))
 refine .fa ?_ fd
 refine .ld ?_ dj
 refine .call (hc:=Tryz.call180) (sp:=nOver (s:=s) (a:=a) (c:=c) (p:=p) (F0:=F0) (F:=F1) (W:=W)) (h:=?_)
 rintro _ _ ⟨rfl,rfl⟩
 refine .z ?_
 refine .condF rfl rfl ?_
 refine .skip (.next (.sr (.move (.assign (.z ?_)))))
 refine .ret (?_)
 refine .retD1 (t:=4) (hc:=Tryz.call92) (sp:=I3 (f:=f) (s:=s) (a:=a) (c:=c) (mp:=mp) (b:=true) (ov:=false) (dead:=false) (S:=S) (T:=T)) (fun v' M' h=>?_)
 obtain ⟨_,rfl⟩:=h
 exact ⟨_,⟨rfl,rfl⟩,Am.auto⟩
theorem M6 {f s a c mp:Nat} {p:Pl} {T:FT} {F0:FM} {W0:Nat} {path:aa} {bp bf bk kind:Nat} (ho:PlOk p) (hT:TOk T) (hpl:path.length<=1000000) {d i:Nat} {nm:aa} {sl:List Slot} {x:NodeT} (hp:path≠[47]) (hpar:dx T path=(d,nm,0)) (hfi:d7 T d nm=(0,4)) (hd:T d=some (.dir sl)) (hi:i < p.ino) (hTi:T i=none) (hb:∀ j < i,T j≠none) (hx:x.empty) (hk:x.kind=kind) (hw:Rw p W0 14) (hfit:tot (fmT T) p.ino+has (max (64 * sl.length) (64 * d6 sl+64))<=p.dc+has (64 * sl.length)):Spec Tryz.prog 119 #[.pointer (some ⟨bp,0,none⟩),.pointer (some ⟨bf,0,none⟩),.pointer (some ⟨bk,0,none⟩)] [pt f (fO c a s true false false mp),LD mp T,IN s a c p F0 (fmT T) W0 true,bun [pt bp (.cells #[sv path] 9 (0,0)),pt bf (.cells #[.pointer (some ⟨f,0,none⟩)] 29 (0,0)),pt bk (.cells #[nI kind] 3 (0,0))]] fun F v M=>v=okV/\M=pt f (fO c a s true false false mp) :: LD mp T :: IN s a c p F0 (fmT (mkT T d sl nm i x)) (W0+1+8) true :: bun [pt bp (.cells #[sv path] 9 (0,0)),pt bf (.cells #[.pointer (some ⟨f,0,none⟩)] 29 (0,0)),pt bk (.cells #[nI kind] 3 (0,0))] :: F:=by
 refine Spec.intro Tryz.func119 rfl rfl fun B F=>?_
 simp only [Tryz.ntmps119,List.cons_append,List.nil_append,env0,Nat.reduceAdd]
 refine .openR (bun.opens _) fun _ _=>?_
 simp only [List.cons_append,List.nil_append]
 have hlk:=M4 (by rw [hfi]) hd
 have hto:=hT d sl hd
 have hfl:=rj sl
 have hne:d≠i:=fun h=>by rw [h,hTi] at hd;cases hd
 have hx0:x.f=(kind,[]):=by rw [NodeT.empty_f hx,hk]
 have hk12:kind=1 ∨ kind=2:=by
  rw [<- hk]
  cases x with
  | file b=>exact .inl rfl
  | dir sl=>exact .inr rfl
 have hF1:updM (fmT T) i (some (kind,[]))=fmT (updT T i (some x)):=by rw [<- hx0,iq]
 have hi32:i < 4294967296:=by have:=ho.i2;omega
 have htot:tot (fmT (updT T i (some x))) p.ino=tot (fmT T) p.ino:=by
  have h:=ip (fmT T) hi (some (kind,[]))
  rw [hF1,l5 hTi] at h
  have h1:hasO none=0:=rfl
  have h2:hasO (some (kind,([]:aa)))=0:=by show has 0=0;rfl
  omega
 have hd1:fmT (updT T i (some x)) d=some (2,dirB sl):=by
  have:updT T i (some x) d=some (.dir sl):=by rw [e9 _ _ hne];exact hd
  exact ep this
 refine .sr (.assign (.z (.seq (.sr ?_))))
 refine .ld ?_ sc9
 refine .eqS path [47] ?_
 refine .cast (d:=11) (u:=.bool false) rfl (cB9 (decide_eq_false hp)) ?_
 refine .z ?_
 refine .condF rfl rfl ?_
 refine .skip (.next (.sr ?_))
 refine .ld ?_ sc29
 refine .ld ?_ sc9
 refine .call (hc:=Tryz.call112) (sp:=M3 (f:=f) (s:=s) (a:=a) (c:=c) (mp:=mp) (b:=true) (ov:=false) (dead:=false) (p:=p) (T:=T) (F0:=F0) (W:=W0) (op:=true) (path:=path) ho hT hpl) (h:=?_)
 rintro _ _ ⟨rfl,rfl⟩
 rw [hpar]
 refine .move ?_
 refine .extract (.extract (.extract ?_))
 refine .assign (.assign (.assign (.z (.seq (.sr (.move ?_))))))
 refine .nei (.z ?_)
 refine .condF rfl (cB9 (by first|simp;done|simp;omega|omega)) ?_
 refine .skip (.next (.seq (.sr ?_)))
 refine .ld ?_ sc29
 refine .move (.move ?_)
 refine .call (hc:=Tryz.call113) (sp:=I0 (f:=f) (s:=s) (a:=a) (c:=c) (mp:=mp) (b:=true) (ov:=false) (dead:=false) (p:=p) (T:=T) (F0:=F0) (W:=W0) (op:=true) (d:=d) (nm:=nm) ho hT) (h:=?_)
 rintro _ _ ⟨rfl,rfl⟩
 rw [hfi]
 refine .move ?_
 refine .extract (.extract (.assign (.assign (.x (.move ?_)))))
 refine .nei (.z ?_)
 refine .condF rfl (cB9 (by first|simp;done|simp;omega|omega)) ?_
 refine .skip (.next (.seq ?_))
 refine .dr ([pt bf (.cells #[.pointer (some ⟨f,0,none⟩)] 29 (0,0)),pt bk (.cells #[nI kind] 3 (0,0)),pt f (fO c a s true false false mp)]) [] 11 mixed .autoJ ?_
 refine .tk 0 rfl (.ld sc29) ?_
 refine .tk 1 rfl .nilCheck ?_
 refine .tk 2 rfl (.fa fc) ?_
 refine .tk 3 rfl (.ld pw) ?_
 refine .tk 4 rfl (.ld sc3) ?_
 refine .on 5 rfl fun hnp=>?_
 refine .call (hc:=Tryz.call120) (sp:=nMake (s:=s) (a:=a) (c:=c) (p:=p) (F0:=F0) (F:=fmT T) (W:=W0) (i:=i) (k:=kind) ho hk12 (hw.less (by omega)) hi (l5 hTi) (fun j hj h=>by have:=hb j hj;unfold fmT at h;cases hj2:T j with | none=>exact this hj2 | some y=>rw [hj2] at h;cases h)) (h:=?_)
 rintro _ _ ⟨rfl,rfl⟩
 rw [hF1]
 refine .nil (.wa hnp ?_)
 refine .tk 6 rfl .move ?_
 refine .tk 7 rfl .extract ?_
 refine .tk 8 rfl .extract ?_
 refine .tk 9 rfl .assign ?_
 refine .tk 10 rfl .assign ?_
 refine .fin ?_
 refine .next (.seq (.sr (.move ?_)))
 refine .nei (.z ?_)
 refine .condF rfl (cB9 (by first|simp;done|simp;omega|omega)) ?_
 refine .skip (.next (.sr ?_))
 refine .ld ?_ sc29
 refine .nilCheck ?_
 refine .fa ?_ fc
 refine .ld ?_ pw
 refine .move (.move (.move ?_))
 refine .call (hc:=Tryz.call121) (sp:=dAdd (s:=s) (a:=a) (c:=c) (p:=p) (F0:=F0) (Fm:=fmT (updT T i (some x))) (W:=W0+1) (d:=d) (nm:=nm) (sl:=sl) ho hlk.1 hd1 hto.1 (by omega) (jh hlk.2) (i:=i) hi32 (by unfold Rw at hw ⊢;omega) (by omega) (by rw [htot];exact hfit)) (h:=?_)
 rintro _ _ ⟨rfl,rfl⟩
 rw [show updM (fmT (updT T i (some x))) d (some (2,dirB (setS sl (d6 sl) (some (nm,i)))))=(fmT (mkT T d sl nm i x)) from iq _ _ (.dir _)]
 refine .assign (.z (.ret (?_)))
 refine .shutR (bun.opens [pt bp (.cells #[sv path] 9 (0,0)),pt bf (.cells #[.pointer (some ⟨f,0,none⟩)] 29 (0,0)),pt bk (.cells #[nI kind] 3 (0,0))]) () trivial ?_
 exact .ret1 (h1:=.tmp (t:=3) rfl) ⟨_,⟨rfl,rfl⟩,Am.auto⟩
def I4 (f:Nat) (p:Pl) (F0:FM) (T:FT) (W:Nat) (y:Nat×Nat×Nat×Nat):List HP:=[pt f (fO y.1 y.2.1 y.2.2.1 true false false y.2.2.2),LD y.2.2.2 T,IN y.2.2.1 y.2.1 y.1 p F0 (fmT T) W true]
def FSB (f:Nat) (p:Pl) (F0:FM) (T:FT) (W:Nat):HP:=fun h=>∃ y,True/\star (I4 f p F0 T W y) h
theorem FSB.opens (f:Nat) (p:Pl) (F0:FM) (T:FT) (W:Nat):Opens (FSB f p F0 T W) (fun _=>True) (I4 f p F0 T W):=⟨fun h hh=>hh,fun x hp h hh=>⟨x,hp,hh⟩⟩
attribute [irreducible] FSB
theorem I5 {f:Nat} {p:Pl} {T:FT} {F0:FM} {W0:Nat} {kind:Nat} {path:aa} (ho:PlOk p) (hT:TOk T) (hpl:path.length<=1000000) {d i:Nat} {nm:aa} {sl:List Slot} {x:NodeT} (hp:path≠[47]) (hpar:dx T path=(d,nm,0)) (hfi:d7 T d nm=(0,4)) (hd:T d=some (.dir sl)) (hi:i < p.ino) (hTi:T i=none) (hb:∀ j < i,T j≠none) (hx:x.empty) (hk:x.kind=kind) (hw:Rw p W0 14) (hfit:tot (fmT T) p.ino+has (max (64 * sl.length) (64 * d6 sl+64))<=p.dc+has (64 * sl.length)):Spec Tryz.prog 64 #[.pointer (some ⟨f,0,none⟩),sv path,nI kind] [FSB f p F0 T W0] fun F v M=>v=okV/\M=FSB f p F0 (mkT T d sl nm i x) (W0+1+8) :: F:=by
 refine Spec.intro Tryz.func64 rfl rfl fun B F=>?_
 simp only [Tryz.ntmps64,List.cons_append,List.nil_append,env0,Nat.reduceAdd]
 refine .openR (FSB.opens f p F0 T W0) fun y _=>?_
 obtain ⟨c,a,s,mp⟩:=y
 simp only [I4,List.cons_append,List.nil_append]
 refine .sr ?_
 refine .box fun b3=>?_
 refine .box fun b4=>?_
 refine .box fun b5=>?_
 refine .assign (.x ?_)
 refine .ld ?_ sc29
 refine .makeFuncB ?_
 refine .shutR (bun.opens [pt b4 (.cells #[sv path] 9 (0,0)),pt b3 (.cells #[.pointer (some ⟨f,0,none⟩)] 29 (0,0)),pt b5 (.cells #[nI kind] 3 (0,0))]) () trivial ?_
 refine .call (hc:=Tryz.call110) (sp:=zo (s:=s) (a:=a) (c:=c) (p:=p) (f:=f) (mp:=mp) (T:=mkT T d sl nm i x) (S:=T) (F0:=F0) (W0:=W0) (hc:=Tryz.call119) (sp:=(M6 (bp:=b4) (bf:=b3) (bk:=b5) ho hT hpl hp hpar hfi hd hi hTi hb hx hk hw hfit))) (h:=?_)
 rintro _ _ ⟨rfl,rfl⟩
 refine .assign (.z (.ret (?_)))
 refine .shutR (FSB.opens f p F0 (mkT T d sl nm i x) (W0+1+8)) (c,a,s,mp) trivial ?_
 exact .ret1 (h1:=.tmp (t:=6) rfl) ⟨_,⟨rfl,rfl⟩,Am.auto⟩
theorem I6 {f:Nat} {p:Pl} {T:FT} {F0:FM} {W0:Nat} {path:aa} (ho:PlOk p) (hT:TOk T) (hpl:path.length<=1000000) {d i:Nat} {nm:aa} {sl:List Slot} {x:NodeT} (hp:path≠[47]) (hpar:dx T path=(d,nm,0)) (hfi:d7 T d nm=(0,4)) (hd:T d=some (.dir sl)) (hi:i < p.ino) (hTi:T i=none) (hb:∀ j < i,T j≠none) (hx:x.empty) (hk:x.kind=1) (hw:Rw p W0 14) (hfit:tot (fmT T) p.ino+has (max (64 * sl.length) (64 * d6 sl+64))<=p.dc+has (64 * sl.length)):Spec Tryz.prog 100 #[.pointer (some ⟨f,0,none⟩),sv path] [FSB f p F0 T W0] fun F v M=>v=okV/\M=FSB f p F0 (mkT T d sl nm i x) (W0+1+8) :: F:=by
 refine Spec.intro Tryz.func100 rfl rfl fun B F=>?_
 simp only [Tryz.ntmps100,List.cons_append,List.nil_append,env0,Nat.reduceAdd]
 refine .sr (.assign (.x (.move (.move ?_))))
 refine .call (hc:=Tryz.call64) (sp:=I5 (f:=f) (p:=p) (T:=T) (kind:=1) ho hT hpl hp hpar hfi hd hi hTi hb hx hk hw hfit) (h:=?_)
 rintro _ _ ⟨rfl,rfl⟩
 refine .assign (.z (.ret (?_)))
 exact .ret1 (h1:=.tmp (t:=4) rfl) ⟨_,⟨rfl,rfl⟩,Am.auto⟩
theorem M7 {f:Nat} {p:Pl} {T:FT} {F0:FM} {W0:Nat} {path:aa} (ho:PlOk p) (hT:TOk T) (hpl:path.length<=1000000) {d i:Nat} {nm:aa} {sl:List Slot} {x:NodeT} (hp:path≠[47]) (hpar:dx T path=(d,nm,0)) (hfi:d7 T d nm=(0,4)) (hd:T d=some (.dir sl)) (hi:i < p.ino) (hTi:T i=none) (hb:∀ j < i,T j≠none) (hx:x.empty) (hk:x.kind=2) (hw:Rw p W0 14) (hfit:tot (fmT T) p.ino+has (max (64 * sl.length) (64 * d6 sl+64))<=p.dc+has (64 * sl.length)):Spec Tryz.prog 31 #[.pointer (some ⟨f,0,none⟩),sv path] [FSB f p F0 T W0] fun F v M=>v=okV/\M=FSB f p F0 (mkT T d sl nm i x) (W0+1+8) :: F:=by
 refine Spec.intro Tryz.func31 rfl rfl fun B F=>?_
 simp only [Tryz.ntmps31,List.cons_append,List.nil_append,env0,Nat.reduceAdd]
 refine .sr (.assign (.x (.move (.move ?_))))
 refine .call (hc:=Tryz.call64) (sp:=I5 (f:=f) (p:=p) (T:=T) (kind:=2) ho hT hpl hp hpar hfi hd hi hTi hb hx hk hw hfit) (h:=?_)
 rintro _ _ ⟨rfl,rfl⟩
 refine .assign (.z (.ret (?_)))
 exact .ret1 (h1:=.tmp (t:=4) rfl) ⟨_,⟨rfl,rfl⟩,Am.auto⟩
theorem M8 {f s a c mp:Nat} {p:Pl} {T:FT} {F0:FM} {W0:Nat} {k:FuncId} {cap:Array Value} {R R2:HP} {path:aa} {bp bf bd:Nat} (ho:PlOk p) (hT:TOk T) (hpl:path.length<=1000000) {i z e W:Nat} {F1:FM} (hft:qy T path=(i,1,z,0)) (hc:∀ args w,(callFunc k args).run Tryz.prog w=.ok (.enter k args) w)
  (sp:Spec Tryz.prog k (#[nI i,.agg #[nI 1,nI z]]++cap) [pt f (fO c a s true false false mp),LD mp T,IN s a c p F0 (fmT T) W0 true,R] fun F v M=>v=nI e/\M=pt f (fO c a s true false false mp) :: LD mp T :: IN s a c p F0 F1 W true :: R2 :: F):Spec Tryz.prog 227 #[.pointer (some ⟨bf,0,none⟩),.pointer (some ⟨bp,0,none⟩),.pointer (some ⟨bd,0,none⟩)] [pt f (fO c a s true false false mp),LD mp T,IN s a c p F0 (fmT T) W0 true,bun [pt bf (.cells #[.pointer (some ⟨f,0,none⟩)] 29 (0,0)),pt bp (.cells #[sv path] 9 (0,0)),pt bd (.cells #[.func (.func k) #[] cap] 250 (0,0)),R]] fun F v M=>v=nI e/\M=pt f (fO c a s true false false mp) :: LD mp T :: IN s a c p F0 F1 W true :: bun [pt bf (.cells #[.pointer (some ⟨f,0,none⟩)] 29 (0,0)),pt bp (.cells #[sv path] 9 (0,0)),pt bd (.cells #[.func (.func k) #[] cap] 250 (0,0)),R2] :: F:=by
 refine Spec.intro Tryz.func227 rfl rfl fun B F=>?_
 simp only [Tryz.ntmps227,List.cons_append,List.nil_append,env0,Nat.reduceAdd]
 refine .openR (bun.opens _) fun _ _=>?_
 simp only [List.cons_append,List.nil_append]
 refine .sr (.assign (.x ?_))
 refine .ld ?_ sc29
 refine .ld ?_ sc9
 refine .call (hc:=Tryz.call187) (sp:=Dm (f:=f) (s:=s) (a:=a) (c:=c) (mp:=mp) (b:=true) (ov:=false) (dead:=false) (p:=p) (T:=T) (F0:=F0) (W:=W0) (op:=true) (path:=path) ho hT hpl) (h:=?_)
 rintro _ _ ⟨rfl,rfl⟩
 rw [hft]
 refine .move ?_
 refine .extract (.extract (.extract ?_))
 refine .alloc z159 fun b5=>?_
 refine .assign ?_
 refine .stV ?_ cw
 refine .assign (.z (.seq (.sr (.move ?_))))
 refine .nei (.z ?_)
 refine .condF rfl (cB9 (by first|simp;done|simp;omega|omega)) ?_
 refine .skip (.next (.sr ?_))
 refine .ld ?_ sc250
 refine .move ?_
 refine .ldA ?_ cw
 refine .callV (vs:=[nI i,.agg #[nI 1,nI z]]) (hc:=hc) (sp:=sp) (h:=?_)
 rintro _ _ ⟨rfl,rfl⟩
 refine .assign (.z (.ret (?_)))
 refine .shutR (bun.opens [pt bf (.cells #[.pointer (some ⟨f,0,none⟩)] 29 (0,0)),pt bp (.cells #[sv path] 9 (0,0)),pt bd (.cells #[.func (.func k) #[] cap] 250 (0,0)),R2]) () trivial ?_
 exact .ret1 (h1:=.tmp (t:=3) rfl) ⟨_,⟨rfl,rfl⟩,Am.auto⟩
theorem Q9 {f s a c mp:Nat} {p:Pl} {T:FT} {F0:FM} {W0:Nat} {k:FuncId} {cap:Array Value} {R R2:HP} {path:aa} (ho:PlOk p) (hT:TOk T) (hpl:path.length<=1000000) {i z W:Nat} {T2:FT} (hft:qy T path=(i,1,z,0)) (hc:∀ args w,(callFunc k args).run Tryz.prog w=.ok (.enter k args) w)
  (sp:Spec Tryz.prog k (#[nI i,.agg #[nI 1,nI z]]++cap) [pt f (fO c a s true false false mp),LD mp T,IN s a c p F0 (fmT T) W0 true,R] fun F v M=>v=okV/\M=pt f (fO c a s true false false mp) :: LD mp T :: IN s a c p F0 (fmT T2) W true :: R2 :: F):Spec Tryz.prog 167 #[.pointer (some ⟨f,0,none⟩),sv path,.func (.func k) #[] cap] [pt f (fO c a s true false false mp),LD mp T,IN s a c p F0 (fmT T) W0 true,R] fun F v M=>v=okV/\M=pt f (fO c a s true false false mp) :: LD mp T2 :: IN s a c p F0 (fmT T2) W true :: R2 :: F:=by
 refine Spec.intro Tryz.func167 rfl rfl fun B F=>?_
 simp only [Tryz.ntmps167,List.cons_append,List.nil_append,env0,Nat.reduceAdd]
 refine .sr ?_
 refine .box fun b3=>?_
 refine .box fun b4=>?_
 refine .box fun b5=>?_
 refine .assign (.x ?_)
 refine .ld ?_ sc29
 refine .makeFuncB ?_
 refine .shutR (bun.opens [pt b3 (.cells #[.pointer (some ⟨f,0,none⟩)] 29 (0,0)),pt b4 (.cells #[sv path] 9 (0,0)),pt b5 (.cells #[.func (.func k) #[] cap] 250 (0,0)),R]) () trivial ?_
 refine .call (hc:=Tryz.call110) (sp:=zo (s:=s) (a:=a) (c:=c) (p:=p) (f:=f) (mp:=mp) (T:=T2) (S:=T) (F0:=F0) (W0:=W0) (hc:=Tryz.call227) (sp:=(M8 (bf:=b3) (bp:=b4) (bd:=b5) (k:=k) (cap:=cap) (R:=R) ho hT hpl (e:=0) hft hc sp))) (h:=?_)
 rintro _ _ ⟨rfl,rfl⟩
 refine .assign (.z (.ret (?_)))
 refine .openR (bun.opens _) fun _ _=>?_
 simp only [List.cons_append,List.nil_append]
 exact .ret1 (h1:=.tmp (t:=6) rfl) ⟨_,⟨rfl,rfl⟩,Am.auto⟩
theorem Ff {f s a c mp:Nat} {p:Pl} {T:FT} {F0:FM} {W0:Nat} {x3 x5:Nat} {i m cc:Nat} {fb bs:aa} {R:HP} {A:Option Addr} (hTi:T i=some (.file fb)) (hR:bs=[] ∨ Reads R A (bvs bs)) (hm:bs.length=m) (hcc:m<=cc) (hcb:cc<=maxLen) (hw:Rw p W0 (has (max fb.length (fb.length+m)) - has fb.length+(m+511) / 512+10)) (hat:fb.length<=fb.length) (hbg:fb.length+m<=70656) (hfit:tot (fmT T) p.ino+has (max fb.length (fb.length+m))<=p.dc+has fb.length) (ho:PlOk p):Spec Tryz.prog 168 (#[nI i,.agg #[nI 1,nI fb.length]]++#[.pointer (some ⟨x3,0,none⟩),.pointer (some ⟨x5,0,none⟩)]) [pt f (fO c a s true false false mp),LD mp T,IN s a c p F0 (fmT T) W0 true,bun [pt x3 (.cells #[.pointer (some ⟨f,0,none⟩)] 29 (0,0)),pt x5 (.cells #[.slice A m cc] 79 (0,0)),R]] fun F v M=>v=okV/\M=pt f (fO c a s true false false mp) :: LD mp T :: IN s a c p F0 (fmT (updT T i (some (.file (wrB fb fb.length bs))))) (W0+(has (max fb.length (fb.length+m)) - has fb.length)+(m+511) / 512+5) true :: bun [pt x3 (.cells #[.pointer (some ⟨f,0,none⟩)] 29 (0,0)),pt x5 (.cells #[.slice A m cc] 79 (0,0)),R] :: F:=by
 refine Spec.intro Tryz.func168 rfl rfl fun B F=>?_
 simp only [Tryz.ntmps168,List.cons_append,List.nil_append,env0,Nat.reduceAdd]
 refine .openR (bun.opens _) fun _ _=>?_
 simp only [List.cons_append,List.nil_append]
 refine .sr ?_
 refine .box fun b5=>?_
 refine .assign (.z (.seq ?_))
 refine .dr ([pt x3 (.cells #[.pointer (some ⟨f,0,none⟩)] 29 (0,0)),pt x5 (.cells #[.slice A m cc] 79 (0,0)),pt f (fO c a s true false false mp),pt b5 (.cells #[nI 1,nI fb.length] 159 (0,0))]) [] 10 mixed .autoJ ?_
 refine .tk 0 rfl (.ld sc29) ?_
 refine .tk 1 rfl .nilCheck ?_
 refine .tk 2 rfl (.fa fc) ?_
 refine .tk 3 rfl (.ld pw) ?_
 refine .tk 4 rfl .move ?_
 refine .tk 5 rfl (.fa Ir) ?_
 refine .tk 6 rfl (.ld sc3) ?_
 refine .tk 7 rfl (.ld sc79) ?_
 refine .on 8 rfl fun hnp=>?_
 refine .call (hc:=Tryz.call169) (sp:=Oq (s:=s) (a:=a) (c:=c) (p:=p) (F0:=F0) (F:=fmT T) (W:=W0) (i:=i) (at':=fb.length) (f:=(1,fb)) (bs:=bs) ho (ep hTi) hw hR hm hcc hcb hat hbg hfit) (h:=?_)
 rintro _ _ ⟨rfl,rfl⟩
 rw [show updM (fmT T) i (some (1,wrB fb fb.length bs))=fmT (updT T i (some (.file (wrB fb fb.length bs)))) from iq T i (.file _)]
 refine .nil (.wa hnp ?_)
 refine .tk 9 rfl .assign ?_
 refine .fin ?_
 refine .next (.ret (?_))
 refine .shutR (bun.opens [pt x3 (.cells #[.pointer (some ⟨f,0,none⟩)] 29 (0,0)),pt x5 (.cells #[.slice A m cc] 79 (0,0)),R]) () trivial ?_
 exact .ret1 (h1:=.tmp (t:=6) rfl) ⟨_,⟨rfl,rfl⟩,Am.auto⟩
theorem I7 {f:Nat} {p:Pl} {T:FT} {F0:FM} {W0:Nat} {path:aa} (ho:PlOk p) (hT:TOk T) (hpl:path.length<=1000000) {i m cc:Nat} {fb bs:aa} {R:HP} {A:Option Addr} (hft:qy T path=(i,1,fb.length,0)) (hTi:T i=some (.file fb)) (hR:bs=[] ∨ Reads R A (bvs bs)) (hm:bs.length=m) (hcc:m<=cc) (hcb:cc<=maxLen) (hw:Rw p W0 (has (max fb.length (fb.length+m)) - has fb.length+(m+511) / 512+10)) (hat:fb.length<=fb.length) (hbg:fb.length+m<=70656) (hfit:tot (fmT T) p.ino+has (max fb.length (fb.length+m))<=p.dc+has fb.length):Spec Tryz.prog 96 #[.pointer (some ⟨f,0,none⟩),sv path,.slice A m cc] [FSB f p F0 T W0,R] fun F v M=>v=okV/\M=FSB f p F0 (updT T i (some (.file (wrB fb fb.length bs)))) (W0+(has (max fb.length (fb.length+m)) - has fb.length)+(m+511) / 512+5) :: R :: F:=by
 refine Spec.intro Tryz.func96 rfl rfl fun B F=>?_
 simp only [Tryz.ntmps96,List.cons_append,List.nil_append,env0,Nat.reduceAdd]
 refine .openR (FSB.opens f p F0 T W0) fun y _=>?_
 obtain ⟨c,a,s,mp⟩:=y
 simp only [I4,List.cons_append,List.nil_append]
 refine .sr ?_
 refine .box fun b3=>?_
 refine .box fun b5=>?_
 refine .assign (.x ?_)
 refine .ld ?_ sc29
 refine .move ?_
 refine .makeFuncB ?_
 refine .shutR (bun.opens [pt b3 (.cells #[.pointer (some ⟨f,0,none⟩)] 29 (0,0)),pt b5 (.cells #[.slice A m cc] 79 (0,0)),R]) () trivial ?_
 refine .call (hc:=Tryz.call167) (sp:=Q9 (s:=s) (a:=a) (c:=c) (p:=p) (f:=f) (mp:=mp) (T:=T) (T2:=(updT T i (some (.file (wrB fb fb.length bs))))) (F0:=F0) (W0:=W0) (W:=(W0+(has (max fb.length (fb.length+m)) - has fb.length)+(m+511) / 512+5)) ho hT hpl hft (hc:=Tryz.call168) (sp:=Ff (x3:=b3) (x5:=b5) hTi hR hm hcc hcb hw hat hbg hfit ho)) (h:=?_)
 rintro _ _ ⟨rfl,rfl⟩
 refine .assign (.z (.ret (?_)))
 refine .openR (bun.opens _) fun _ _=>?_
 simp only [List.cons_append,List.nil_append]
 refine .shutR (FSB.opens f p F0 (updT T i (some (.file (wrB fb fb.length bs)))) (W0+(has (max fb.length (fb.length+m)) - has fb.length)+(m+511) / 512+5)) (c,a,s,mp) trivial ?_
 exact .ret1 (h1:=.tmp (t:=6) rfl) ⟨_,⟨rfl,rfl⟩,Am.auto⟩
end Go.Proofs.YtmihjfcbofejoaaGreatDoor
end
