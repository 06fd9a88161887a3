/- A part of the proof of iv: texts of this work put together. -/
import Derived.Test.YtmihjfcbofejoaaGreatDoorQh6
import Derived.KernelRfl
set_option linter.unusedVariables false
set_option linter.unusedSimpArgs false
set_option linter.unusedSectionVars false
section
namespace Go.Proofs.YtmihjfcbofejoaaGreatDoor
open Go
theorem Sc (s:ByteArray) (t p:Int):av Tryz.prog 54 [(0,.string s),(1,.int .i64 t),(2,.int .i64 p)] #[.string s,.int .i64 t,.int .i64 p]:=fun w=>by kernel_rfl
theorem N9 {n:Nat} (h:n < 9223372036854775808):ax (seg (numB n) 0 8 true)=n:=gz (xs:=List.replicate 8 0) (p:=0) (size:=8) (by decide) (Nat.lt_trans h (by decide))
theorem ui {xs:aa} {p:Nat}:seg xs p 8 true=(xs.drop p).take 8:=rfl
theorem Ej (n:Nat):seg (numB n) 0 8 true=numB n:=by
 rw [ui,List.drop_zero,List.take_of_length_le (by rw [cz];exact Nat.le_refl _)]
theorem Sd (k:KG):seg (ig k) 0 8 true=numB k.2.1:=by
 rw [ui,List.drop_zero]
 unfold ig
 rw [List.append_assoc,List.take_left' (cz _)]
theorem Se (k:KG):seg (ig k) 8 8 true=numB k.2.2:=by
 rw [ui]
 unfold ig
 rw [List.append_assoc,List.drop_left' (cz _),List.take_left' (cz _)]
theorem Sf (k:KG):(ig k).drop 16=k.1:=by
 unfold ig
 rw [List.drop_left' (by rw [List.length_append,cz,cz])]
theorem ye {n:Nat} (h:n < 9223372036854775808):ax (numB n)=n:=by
 have h1:=N9 h
 rwa [Ej] at h1
theorem yf {xs:aa} {at_ n:Nat} (ha:at_+8<=xs.length) (hl:xs.length<=100000) (hv:ax (seg xs at_ 8 true)=n) (hn:n < 9223372036854775808):Spec Tryz.prog 106 #[sv xs,.int .i64 ((at_:Nat):Int)] [] fun F v M=>v=.int .i64 ((n:Nat):Int)/\M=F:=by
 refine Spec.intro Tryz.func106 rfl rfl fun B F=>?_
 simp only [Tryz.ntmps106,List.cons_append,List.nil_append,env0,Nat.reduceAdd]
 refine .sr (.assign (.x (.move ?_)))
 refine .cvtSB xs (fun b9 c9 cs9 el9 fr9 htk hc9=>?_) st9 by79
 have hR:Reads (pt b9 (.cells cs9 el9 fr9)) (some ⟨b9,0,none⟩) (bvs xs):=by
  have h:=(Reads.pt (g:=b9) (e:=el9) (cs:=cs9) (fr:=fr9)).take xs.length
  rwa [htk] at h
 refine .move ?_
 refine .call (hc:=Tryz.call157) (sp:=lh (xs:=xs) (p:=((at_:Nat):Int)) (size:=8) (big:=true) hR rfl (by omega) (by decide) (by omega) (by omega)) (h:=?_)
 rintro _ _ ⟨rfl,rfl⟩
 rw [show seg xs (((at_:Nat):Int)).toNat (8:Int).toNat true=seg xs at_ 8 true by rw [Int.toNat_natCast];rfl,hv]
 refine .move ?_
 refine .extract (.extract (.assign (.assign (.x (.move ?_)))))
 refine .cvt ?_ cx un3
 refine .cast (d:=15) (u:=.int .i64 ((n:Nat):Int)) rfl (cI9 (zu (by omega))) ?_
 refine .assign (.z (.ret (?_)))
 exact .ret1 (h1:=.tmp (t:=4) rfl) ⟨_,⟨rfl,rfl⟩,Am.auto⟩
theorem Sg {gn:aa} {t p o:Nat} {now:Int} (hg:am gn=true) (hgl:gn.length<=1000) (ht:1<=t/\t<=1125899906842624) (hp:p < 8) (ho:o<=1125899906842624):Spec Tryz.prog 57 #[.agg #[.bool true,sv (ig (gn,t,p)),.bool true,sv (numB o),.int .i64 now,.int .i64 0]] [] fun F v M=>v=.tuple #[.agg #[sv gn,.int .i64 ((t:Nat):Int),.int .i64 ((p:Nat):Int)],.int .i64 ((o:Nat):Int),.bool true]/\M=F:=by
 refine Spec.intro Tryz.func57 rfl rfl fun B F=>?_
 simp only [Tryz.ntmps57,List.cons_append,List.nil_append,env0,Nat.reduceAdd]
 have htl:=lw (gn,t,p)
 simp only at htl
 have hnl:=cz o
 refine .sr ?_
 refine .box fun b1=>?_
 refine .alloc z54 fun b2=>?_
 refine .assign (.assign (.z (.seq (.sr ?_))))
 refine .fa ?_ zr
 refine .ld ?_ sc4
 refine .not ?_
 refine .move (.gT ?_)
 refine .fa ?_ zs
 refine .gT ?_
 refine .ld ?_ sc4
 refine .gT ?_
 refine .not ?_
 refine .pickF (.move (.gT ?_))
 refine .fa ?_ qn
 refine .gT ?_
 refine .ld ?_ sc9
 refine .gT ?_
 refine .lenT _ ?_ st9
 refine .gT ?_
 refine .lss ?_
 refine .pickF (.move ?_)
 refine .cast (d:=19) (u:=.bool false) rfl (cB9 (by first | (exact decide_eq_false (by omega)) | (rw [hnl];rfl) | (simp;omega))) ?_
 refine .gT ?_
 refine .fa ?_ vq
 refine .gT ?_
 refine .ld ?_ sc9
 refine .gT ?_
 refine .lenT _ ?_ st9
 refine .gT ?_
 refine .nei ?_
 refine .pickF (.z ?_)
 refine .condF rfl (cB9 (by first | (exact decide_eq_false (by omega)) | (rw [hnl];rfl) | (simp;omega))) ?_
 refine .skip (.next (.seq ?_))
 refine .dr ([pt b1 (.cells #[.bool true,sv (ig (gn,t,p)),.bool true,sv (numB o),.int .i64 now,.int .i64 0] 95 (0,0))]) [10] 11 mixed .autoJ ?_
 refine .tk 0 rfl (.fa qn) ?_
 refine .tk 1 rfl (.ld sc9) ?_
 refine .tk 2 rfl ((Qt.subT (p:=16) (ig (gn,t,p)) st9).eq (v':=sv gn) (congrArg sv (Sf (gn,t,p)))) ?_
 refine .tk 3 rfl (.fa qn) ?_
 refine .tk 4 rfl (.ld sc9) ?_
 refine .tk 6 rfl (.fa qn) ?_
 refine .tk 7 rfl (.ld sc9) ?_
 refine .on 5 rfl fun hnp=>?_
 refine .call (hc:=Tryz.call106) (sp:=yf (xs:=ig (gn,t,p)) (at_:=0) (n:=t) (by omega) (by omega) (by rw [Sd];exact ye (n:=t) (by omega)) (by omega)) (h:=?_)
 rintro _ _ ⟨rfl,rfl⟩
 refine .nil (.wa hnp ?_)
 refine .on 8 rfl fun hnp=>?_
 refine .call (hc:=Tryz.call106) (sp:=yf (xs:=ig (gn,t,p)) (at_:=8) (n:=p) (by omega) (by omega) (by rw [Se];exact ye (n:=p) (by omega)) (by omega)) (h:=?_)
 rintro _ _ ⟨rfl,rfl⟩
 refine .nil (.wa hnp ?_)
 refine .tk 9 rfl (.build (Sc _ _ _)) ?_
 refine .on 10 rfl fun hnp=>?_
 refine .stV ?_ i8
 refine .nil (.wb hnp ?_)
 refine .fin ?_
 refine .next (.sr ?_)
 refine .fa ?_ vq
 refine .ld ?_ sc9
 refine .call (hc:=Tryz.call106) (sp:=yf (xs:=numB o) (at_:=0) (n:=o) (by rw [hnl];decide) (by rw [hnl];decide) (by rw [Ej];exact ye (by omega)) (by omega)) (h:=?_)
 rintro _ _ ⟨rfl,rfl⟩
 refine .assign (.z (.seq ?_))
 refine .dr ([pt b2 (.cells #[sv gn,.int .i64 ((t:Nat):Int),.int .i64 ((p:Nat):Int)] 54 (0,0))]) [] 15 mixed .autoJ ?_
 refine .tk 0 rfl (.ldA i8) ?_
 refine .tk 1 rfl .move ?_
 refine .tk 2 rfl (.ldA i8) ?_
 refine .on 3 rfl fun hnp=>?_
 refine .call (hc:=Tryz.call53) (sp:=Kq hg ht hp) (h:=?_)
 rintro _ _ ⟨rfl,rfl⟩
 refine .nil (.wa hnp ?_)
 refine .tk 4 rfl .move ?_
 refine .tn 5 rfl .move ?_
 refine .tn 6 rfl ((Qt.geq).eq (v':=.bool true) (cB9 (decide_eq_true (by omega)))) ?_
 refine .tk 7 rfl .pickT ?_
 refine .tk 8 rfl .move ?_
 refine .tn 9 rfl .move ?_
 refine .tn 10 rfl ((Qt.leq).eq (v':=.bool true) (cB9 (decide_eq_true (by omega)))) ?_
 refine .tk 11 rfl .pickT ?_
 refine .on 12 rfl fun hnp=>?_
 refine .stV ?_ i8
 refine .nil (.wa hnp ?_)
 refine .tk 13 rfl .assign ?_
 refine .tk 14 rfl .assign ?_
 refine .fin ?_
 refine .next (.ret (?_))
 exact .ret3 (h2:=.tmp (t:=3) rfl) (h3:=.tmp (t:=4) rfl) ⟨_,⟨rfl,rfl⟩,Am.auto⟩
theorem Pp {y:SegA}:∀ {ss:List SegA},y∈ss->(byt y).length<=bytT ss
 | [],h=>absurd h List.not_mem_nil
 | z :: ss,h=>by
  have e:bytT (z :: ss)=(byt z).length+bytT ss:=by unfold bytT;rw [List.map_cons,List.sum_cons]
  rw [e]
  rcases List.mem_cons.1 h with h | h
  ·rw [h];omega
  ·have:=Pp h;omega
theorem ChainB.snoc {base:Int} {bs:List Bt} {b:Bt} (h:ChainB base bs) (hx:kz base bs<=b.base) (hb:batE b=0/\b.recs.length<=10000/\b.prod<=9223372036854775807/\b.seq<=9223372036854775807):ChainB base (bs++[b]):=by
 intro i c hc
 by_cases hi:i < bs.length
 ·rw [List.getElem?_append_left hi] at hc
  rw [List.take_append_of_le_length (Nat.le_of_lt hi)]
  exact h i c hc
 ·have hi2:i=bs.length:=by
   have:=(List.getElem?_eq_some_iff.1 hc).1
   rw [List.length_append,List.length_singleton] at this
   omega
  subst hi2
  rw [List.getElem?_append_right (Nat.le_refl _),Nat.sub_self] at hc
  injection hc with hc
  subst hc
  rw [List.take_left']
  ·exact ⟨hb,hx⟩
  ·rfl
structure PSC (x:PS):Prop where
 inc:uf x.ss
 ch:∀ y∈x.ss,ChainB ((y.1:Nat):Int) y.2
theorem PSC.zero :PSC ⟨[],0,[]⟩:=⟨List.pairwise_singleton _ _,fun y hy=>by
 rw [List.mem_singleton.1 hy]
 intro i b h
 simp at h⟩
theorem PSC.add {x:PS} {next m:Nat} {l:List Bt} {seg:Int} {b:Bt} (h:PSC x) (hI:PSI x next l m) (hb:b.base=((next:Nat):Int)) (hE:batE b=0/\b.recs.length<=10000/\b.prod<=9223372036854775807/\b.seq<=9223372036854775807):PSC (x.add seg b):=by
 have hinc:=h.inc
 unfold uf PS.ss at hinc
 rw [List.pairwise_append] at hinc
 unfold PS.add
 split
 ·refine ⟨?_,fun y hy=>?_⟩
  ·show (x.pre++[(x.base,x.bs++[b])]).Pairwise _
   rw [List.pairwise_append]
   refine ⟨hinc.1,List.pairwise_singleton _ _,fun y hy z hz=>?_⟩
   rw [List.mem_singleton.1 hz]
   have h1:y.1 < x.base:=hinc.2.2 y hy (x.base,x.bs) (List.mem_singleton.2 rfl)
   exact h1
  ·rcases List.mem_append.1 hy with hy | hy
   ·exact h.ch y (List.mem_append_left _ hy)
   ·rw [List.mem_singleton.1 hy]
    exact (h.ch (x.base,x.bs) (List.mem_append_right _ (List.mem_singleton.2 rfl))).snoc (by rw [hb,<-hI.nx];exact Int.le_refl _) hE
 ·rename_i hc
  have hne:x.bs≠[]:=fun h0=>hc (.inl (by rw [h0];rfl))
  have hlt:=hI.lt.2 hne
  have hn:b.base.toNat=next:=by rw [hb,Int.toNat_natCast]
  rw [hn]
  refine ⟨?_,fun y hy=>?_⟩
  ·show (x.ss++[(next,[b])]).Pairwise _
   rw [List.pairwise_append]
   refine ⟨h.inc,List.pairwise_singleton _ _,fun y hy z hz=>?_⟩
   rw [List.mem_singleton.1 hz]
   have:=hI.le y hy
   show y.1 < next
   omega
  ·rcases List.mem_append.1 hy with hy | hy
   ·exact h.ch y hy
   ·rw [List.mem_singleton.1 hy]
    have h0:ChainB ((next:Nat):Int) []:=fun i c hc=>by simp at hc
    exact h0.snoc (by rw [hb];exact Int.le_refl _) hE
abbrev KH :=KG×Nat×Int
def uw :Nat->List KH->List Bt
 | _,[]=>[]
 | i,z :: l=>grB i z.1 z.2.1 z.2.2 :: uw (i+1) l
theorem wg {z:KH}:∀ (l:List KH) (i:Nat),uw i (l++[z])=uw i l++[grB (i+l.length) z.1 z.2.1 z.2.2]
 | [],i=>rfl
 | y :: l,i=>by
  have h:=wg (z:=z) l (i+1)
  rw [List.cons_append]
  show grB i _ _ _ :: uw (i+1) (l++[z])=_
  rw [h,List.length_cons,show i+1+l.length=i+(l.length+1) by omega]
  rfl
theorem lx :∀ (l:List KH) (i:Nat),(uw i l).length=l.length
 | [],_=>rfl
 | y :: l,i=>by show (uw (i+1) l).length+1=_;rw [lx l,List.length_cons]
theorem Ek :∀ (l:List KH) (i j:Nat) (z:KH),l[j]?=some z->(uw i l)[j]?=some (grB (i+j) z.1 z.2.1 z.2.2)
 | [],_,_,_,h=>by simp at h
 | y :: l,i,0,z,h=>by
  injection h with h
  subst h
  rfl
 | y :: l,i,j+1,z,h=>by
  have h1:=Ek l (i+1) j z (by simpa using h)
  rw [show i+(j+1)=i+1+j by omega,<-h1]
  rfl
theorem Af {b:Bt}:∀ (l:List KH) (i:Nat),b∈uw i l->0<=b.base/\b.span=((1:Nat):Int)
 | [],_,h=>absurd h List.not_mem_nil
 | y :: l,i,h=>by
  rcases List.mem_cons.1 h with rfl | h
  ·exact ⟨by show (0:Int)<=((i:Nat):Int);omega,Ei⟩
  ·exact Af l (i+1) h
def ev (l:List KH):List (KG×Int):=l.foldl (fun kv z=>kput kv z.1 ((z.2.1:Nat):Int)) []
theorem jm (l:List KH) (z:KH):ev (l++[z])=kput (ev l) z.1 ((z.2.1:Nat):Int):=by
 unfold ev
 rw [List.foldl_append]
 rfl
def KOk (z:KH):Prop:=am z.1.1=true/\z.1.1.length<=3/\(1<=z.1.2.1/\z.1.2.1<=1125899906842624)/\z.1.2.2 < 8/\z.2.1<=1125899906842624/\(0<=z.2.2/\z.2.2<=1125899906842624)
structure GkH (x:PS) (hist:List KH):Prop where
 gr:GkI hist.length x (uw 0 hist)
 psc:PSC x
 ok:∀ z∈hist,KOk z
theorem GkH.zero :GkH ⟨[],0,[]⟩ []:=⟨GkI.zero,PSC.zero,fun z hz=>absurd hz List.not_mem_nil⟩
theorem GkH.add {x:PS} {hist:List KH} {z:KH} (h:GkH x hist) (hz:KOk z) (hn:hist.length<=1000):GkH (x.add 2048 (grB hist.length z.1 z.2.1 z.2.2)) (hist++[z]):=by
 refine ⟨?_,h.psc.add h.gr.psi rfl ⟨Kw hz.2.1 hn hz.2.2.2.2.2,by show 1<=10000;decide,by show (0:Int)<=_;decide,by show (0:Int)<=_;decide⟩,fun y hy=>(List.mem_append.1 hy).elim (h.ok y) (fun hy=>by rw [List.mem_singleton.1 hy];exact hz)⟩
 have h1:=h.gr.add (o:=z.2.1) (now:=z.2.2) hz.2.1
 rw [List.length_append,List.length_singleton,wg,Nat.zero_add]
 exact h1
theorem wh {mx:Int}:∀ (l:List Bt) (n:Int) (h:Bool),n+(((l.flatMap batB).length:Nat):Int)<=mx->gotB mx n h l=l
 | [],_,_,_=>rfl
 | b :: l,n,h,hs=>by
  rw [List.flatMap_cons,List.length_append] at hs
  unfold gotB
  rw [if_neg (fun hc=>by omega),wh l _ true (by omega)]
theorem GkH.got {x:PS} {hist:List KH} (h:GkH x hist) (hn:hist.length<=500):gotB 1099511627776 0 false (q8 ((0:Nat):Int) x.ss)=uw 0 hist:=by
 rw [ug,h.gr.psi.all,Ee _ (fun b hb=>by have:=Af hist 0 hb;omega)]
 refine wh _ _ _ ?_
 have h1:=Ki h.gr.psi.size
 rw [lx] at h1
 omega
theorem K1 {f:Nat} {x:PS} {hist:List KH} (h:GkH x hist) (hn:hist.length<=500):Spec Tryz.prog 26 #[.pointer (some ⟨f,0,none⟩),sv [47,111]] [DRF f (pE 900 60) [111] x.ss.length x.ss] fun F v M=>∃ gp,v=.tuple #[.pointer (some ⟨gp,0,none⟩),.int .i64 0]/\M=GR gp f x (ev hist) :: F:=by
 refine Spec.intro Tryz.func26 rfl rfl fun B F=>?_
 simp only [Tryz.ntmps26,List.cons_append,List.nil_append,env0,Nat.reduceAdd]
 have hpre:=h.gr.pre
 have hbyt:=h.gr.psi.byt
 rw [lx] at hbyt
 have hxl:=x.len
 obtain ⟨bs0,post,hfst⟩:=h.gr.psi.fst
 have hnx:=h.gr.psi.nx
 have hlt:=h.gr.psi.lt
 have hfit:FitsP (pE 900 60) x.ss.length x.ss:=⟨by omega,by show x.ss.length+3<=60;omega,by omega,by omega⟩
 have hall:(x.ss.flatMap fun y=>y.2).length<=90000:=by rw [h.gr.psi.all,lx];omega
 refine .sr (.assign (.assign (.x (.move (.move ?_)))))
 refine .call (hc:=Tryz.call56) (sp:=B9) (h:=?_)
 rintro _ _ ⟨rfl,rfl⟩
 refine .call (hc:=Tryz.call30) (sp:=N7 (f:=f) (N:=x.ss.length) (dn:=[111]) (st:=stG) (ss:=x.ss) Ks (by decide) hfit (by decide) h.psc.inc (fun y hy=>by have:=h.gr.psi.le y hy;omega) (fun y hy=>⟨h.psc.ch y hy,by have:=Pp hy;omega⟩) (by omega)) (h:=?_)
 rintro _ _ ⟨pp,rfl,rfl⟩
 refine .move ?_
 refine .extract (.extract ?_)
 refine .assign (.assign (.z (.seq (.sr (.move ?_)))))
 refine .nei (.z ?_)
 refine .condF rfl rfl ?_
 refine .skip (.next (.sr (.move ?_)))
 refine .mkMap fun m28=>?_
 refine .build ?_ (Uv pp m28)
 refine .box fun b30=>?_
 refine .assign (.x (.move (.move ?_)))
 refine .call (hc:=Tryz.call19) (sp:=ua (ss:=x.ss) (post:=post) (y:=(0,bs0)) hfst) (h:=?_)
 rintro _ _ ⟨rfl,rfl⟩
 refine .call (hc:=Tryz.call20) (sp:=Ef (off:=((0:Nat):Int)) (mx:=1099511627776) (y:=(0,bs0)) (post:=post) (pre:=x.pre) (z:=(x.base,x.bs)) hfst rfl hall (by decide) ⟨Int.le_refl _,by show _<=kz ((x.base:Nat):Int) x.bs;rw [hnx];omega⟩) (h:=?_)
 rintro _ _ ⟨u,rfl,rfl⟩
 refine .openR (BL.opens _ _) fun y hy=>?_
 obtain ⟨l,os2⟩:=y
 obtain ⟨hl1,hl2⟩:=hy
 simp only [List.cons_append,List.nil_append] at hl1 hl2 ⊢
 refine .fact (ae (el:=44) (size:=5) (k:=l.length) (v:=u) (xs:=l.flatMap BRow.v)) fun ⟨A,c,hv,hR,_,_,_⟩=>?_
 subst hv
 rw [h.got hn] at hl1
 have hll:l.length=hist.length:=by
  have h1:=congrArg List.length hl1
  rwa [List.length_map,lx] at h1
 refine .move ?_
 refine .extract (.extract ?_)
 refine .assign (.assign (.z (.seq (.sr (.move ?_)))))
 refine .nei (.z ?_)
 refine .condF rfl rfl ?_
 refine .skip (.next (.seq (.sr (.move ?_))))
 refine .lenS ?_ sl40
 refine .move (.z (.block ?_))
 refine .loopA (σ:=Nat×Array MapEntry×Nat) (fun y=>[(8,.pointer (some ⟨b30,0,none⟩)),(41,.slice A l.length c),(42,.int .i64 ((l.length:Nat):Int)),(43,.int .i64 ((y.1:Nat):Int))]) (fun y=>[pt b30 (.cells #[.pointer (some ⟨pp,0,none⟩),.map (some m28)] 101 (0,0)),pt m28 (.map y.2.1 y.2.2),rowR 44 5 (.slice A l.length c) l.length (l.flatMap BRow.v),frz os2,PT pp f [111] stG [] x.ss,DRF f (pE 900 60) [111] x.ss.length x.ss]++F) (fun y=>y.1<=l.length/\MapIs encG y.2.1 y.2.2 (gv (ev (hist.take y.1)))) (fun y=>l.length - y.1) (0,#[],0) ⟨Nat.zero_le _,MapIs.empty _ _⟩ ?_
 rintro y hy
 obtain ⟨j,es,cl⟩:=y
 obtain ⟨hj,hm⟩:=hy
 simp only at hj hm ⊢
 refine .sr ?_
 refine .lss (.z (.seq ?_))
 refine .cond rfl (fun hd=>?_) (fun hd=>?_)
 ·have hjl:j < l.length:=by have h:((j:Nat):Int) < ((l.length:Nat):Int):=of_decide_eq_true hd;omega
  obtain ⟨ab,ao,rfl⟩:=Fw hR (by omega)
  obtain ⟨r,hr⟩:∃ r,l[j]?=some r:=⟨_,List.getElem?_eq_getElem hjl⟩
  obtain ⟨⟨⟨gn,t,p⟩,o,now⟩,hz⟩:∃ z,hist[j]?=some z:=⟨_,List.getElem?_eq_getElem (by omega)⟩
  obtain ⟨hz1,hz2,hz3,hz4,hz5,hz6⟩:=h.ok _ (List.mem_of_getElem? hz)
  simp only at hz1 hz2 hz3 hz4 hz5 hz6
  have hzb:=Ek hist 0 j _ hz
  rw [<- hl1,List.getElem?_map,hr,Nat.zero_add] at hzb
  have hrb:r.b=grB j (gn,t,p) o now:=Option.some.inj hzb
  obtain ⟨_,_,A2,c2,hrs,hRf⟩:=hl2 r (List.mem_of_getElem? hr)
  obtain ⟨rb,rs⟩:=r
  simp only at hrb hrs hRf
  subst hrb
  subst hrs
  obtain ⟨ab2,ao2,asp2⟩:=A2
  have hasp2:asp2=none:=hRf.1
  subst hasp2
  have hfa:=i5 BRow.v_len _ _ _ hr
  have hfl:=be BRow.v_len l
  have htk:hist.take (j+1)=hist.take j++[((gn,t,p),o,now)]:=by rw [List.take_add_one,hz];rfl
  refine .skip (.next (.seq (.block (.sr ?_))))
  refine .idx ?_ so40
  refine .ldAR (i:=((j:Nat):Int).toNat * 5) (us:=(grB j (gn,t,p) o now).v (.slice (some ⟨ab2,ao2,none⟩) (grB j (gn,t,p) o now).recs.length c2)) ?_ dz hR (by rw [Int.toNat_natCast];exact hfa) (by rw [Int.toNat_natCast];omega)
  refine .alloc z44 fun b11=>?_
  refine .stV ?_ dz
  refine .x ?_
  refine .fa ?_ ir
  refine .ld ?_ sc37
  refine .lenS ?_ sl37
  refine .move (.z (.block ?_))
  refine .loopN 2 (RC.succ ?_)
  refine .sr ?_
  refine .lss (.z (.seq ?_))
  refine .condT rfl rfl ?_
  refine .skip (.next (.seq (.block (.sr ?_))))
  refine .idx ?_ so37 (hp:=⟨Int.le_refl 0,Int.zero_lt_one⟩)
  refine .ldAR (i:=0) (us:=[.bool true,sv (ig (gn,t,p)),.bool true,sv (numB o),.int .i64 now,.int .i64 0]) ?_ ji hRf rfl (Nat.le_refl 6)
  refine .alloc z95 fun b13_0=>?_
  refine .stV ?_ ji
  refine .x ?_
  refine .ldA ?_ ji
  refine .call (hc:=Tryz.call57) (sp:=Sg (gn:=gn) (t:=t) (p:=p) (o:=o) (now:=now) hz1 (by omega) hz3 hz4 hz5) (h:=?_)
  rintro _ _ ⟨rfl,rfl⟩
  refine .move ?_
  refine .extract (.extract (.extract ?_))
  refine .alloc z54 fun b14_0=>?_
  refine .stV ?_ i8
  refine .assign (.assign (.z (.seq (.sr (.move ?_)))))
  refine .not (.z ?_)
  refine .condF rfl rfl ?_
  refine .skip (.next ?_)
  refine .dr ([pt b30 (.cells #[.pointer (some ⟨pp,0,none⟩),.map (some m28)] 101 (0,0)),pt b14_0 (.cells #[sv gn,.int .i64 ((t:Nat):Int),.int .i64 ((p:Nat):Int)] 54 (0,0))]) [6] 7 mixed .autoJ ?_
  refine .tk 0 rfl .move ?_
  refine .tk 1 rfl .nilCheck ?_
  refine .tk 2 rfl (.fa ie) ?_
  refine .tk 3 rfl (.ld sc99) ?_
  refine .tk 4 rfl (.ldA i8) ?_
  refine .tk 5 rfl .move ?_
  refine .on 6 rfl fun hnp=>?_
  refine .upd (k:=(gn,t,p)) (v:=.int .i64 ((o:Nat):Int)) kgL hm mp99 fun es2 c3 hm2=>?_
  refine .nil (.wb hnp ?_)
  refine .fin ?_
  refine .blockNormal (.next (.region ?_))
  refine .add ?_
  refine .move (.nil ?_)
  refine .again (RC.succ ?_)
  refine .sr ?_
  refine .lss (.z (.seq ?_))
  refine .condF rfl rfl ?_
  refine .exit (.thenExit (.thenExit (.blockExit (?_))))
  refine .blockNormal (.next (.region ?_))
  refine .add ?_
  refine .move (.nil ?_)
  rw [Eg,<-jm _ ((gn,t,p),o,now),<-htk] at hm2
  refine .cast (d:=43) (u:=.int .i64 ((j+1:Nat):Int)) rfl (cI9 (by omega)) ?_
  exact .back (j+1,es2,c3) ⟨hjl,hm2⟩ (show l.length - (j+1) < l.length - j by omega)
 ·have hje:j=hist.length:=by have h:¬ ((j:Nat):Int) < ((l.length:Nat):Int):=of_decide_eq_false hd;omega
  rw [hje,List.take_length] at hm
  refine .exit (.thenExit (.thenExit (.blockExit (?_))))
  refine .next (.sr (.move (.assign (.assign (.z ?_)))))
  refine .ret (?_)
  refine .shutR (GR.opens b30 f x (ev hist)) (pp,m28,es,cl) hm ?_
  exact .ret2 (h1:=.tmp (t:=4) rfl) (h2:=.tmp (t:=5) rfl) ⟨_,⟨b30,rfl,rfl⟩,Am.auto⟩
theorem bs1D (x:Int):bc Tryz.prog 79 1 [(0,.int .u8 x)] 5 #[.int .u8 x]:=fun w=>by kernel_rfl
theorem yg (s:ByteArray) (t p:Int):av Tryz.prog 54 [(0,.string s),(1,.int .i64 t),(2,.int .i64 p)] #[.string s,.int .i64 t,.int .i64 p]:=fun w=>by kernel_rfl
def digD (n:Nat):UInt8:=UInt8.ofNat (48+n % 10)
theorem yh (n:Nat):(digD n).toNat=48+n % 10:=by
 unfold digD
 rw [UInt8.toNat_ofNat',Nat.mod_eq_of_lt (by omega)]
def decB (n:Nat):aa:=if n < 10 then [digD n] else [digD (n / 10),digD n]
theorem Oa {a b:Nat} (ha:a < 100) (hb:b < 100) (h:decB a=decB b):a=b:=by
 have e:∀ x y:Nat,digD x=digD y->x % 10=y % 10:=fun x y hxy=>by
  have h1:=congrArg UInt8.toNat hxy
  rw [yh,yh] at h1
  omega
 unfold decB at h
 split at h
 ·split at h
  ·injection h with h1 _
   have:=e _ _ h1
   omega
  ·injection h with _ h1
   cases h1
 ·split at h
  ·injection h with _ h1
   cases h1
  ·injection h with h1 h2
   injection h2 with h2 _
   have h3:=e _ _ h1
   have h4:=e _ _ h2
   omega
theorem p9 :∀ q,q < 30->am (103 :: decB q)=true/\(103 :: decB q).length<=3:=by decide +kernel
theorem ox (n:Nat):bv (digD n)=.int .u8 ((48+n % 10:Nat):Int):=by
 unfold bv
 rw [yh]
def keyM (i:Nat):KG:=(103 :: decB (i / 8),3,i % 8)
theorem El {i j:Nat} (hi:i < 800) (hj:j < 800) (h:keyM i=keyM j):i=j:=by
 unfold keyM at h
 injection h with h1 h2
 injection h2 with _ h2
 injection h1 with _ h1
 have:=Oa (by omega) (by omega) h1
 omega
def jn (m:Nat):List KH:=(List.range m).map fun j=>(keyM j,j,0)
theorem ma (m:Nat):jn (m+1)=jn m++[(keyM m,m,0)]:=by unfold jn;rw [List.range_succ,List.map_append];rfl
theorem fw (m:Nat):(jn m).length=m:=by simp [jn]
theorem ly :∀ (m i:Nat),m<=200->i < 800->kget (ev (jn m)) (keyM i)=if i < m then some ((i:Nat):Int) else none
 | 0,i,_,_=>by rw [if_neg (Nat.not_lt_zero i)];rfl
 | m+1,i,hm,hi=>by
  rw [ma,jm,cj,ly m i (by omega) hi]
  by_cases e:i=m
  ·subst e
   rw [if_pos rfl,if_pos (by omega)]
  ·rw [if_neg (fun h=>e (El hi (by omega) h))]
   by_cases h:i < m
   ·rw [if_pos h,if_pos (by omega)]
   ·rw [if_neg h,if_neg (by omega)]
theorem rr :∀ m,m<=200->(ev (jn m)).length=m
 | 0,_=>rfl
 | m+1,hm=>by
  rw [ma,jm,mw,ly m m (by omega) (by omega),if_neg (Nat.lt_irrefl m),rr m (by omega)]
  rfl
theorem uj {i:Nat} (hi:i < 200):KOk (keyM i,i,0):=by
 have h:=p9 (i / 8) (by omega)
 exact ⟨h.1,h.2,⟨by show 1<=3;decide,by show 3<=_;decide⟩,by show i % 8 < 8;omega,by show i<=_;omega,⟨by show (0:Int)<=0;decide,by show (0:Int)<=_;decide⟩⟩
theorem mb {n:Nat} (hn:n < 100):Spec Tryz.prog 25 #[.int .i64 ((n:Nat):Int)] [] fun F v M=>v=sv (decB n)/\M=F:=by
 refine Spec.intro Tryz.func25 rfl rfl fun B F=>?_
 simp only [Tryz.ntmps25,List.cons_append,List.nil_append,env0,Nat.reduceAdd]
 by_cases h0:n=0
 ·subst h0
  refine .sr (.assign (.z (.seq (.sr (.move ?_)))))
  refine .eqi (.z ?_)
  refine .condT rfl rfl ?_
  refine .sr (.assign (.z ?_))
  refine .ret (.thenRet (?_))
  exact .ret1 (h1:=.tmp (t:=2) rfl) ⟨_,⟨rfl,rfl⟩,Am.auto⟩
 ·by_cases h10:n < 10
  ·refine .sr (.assign (.z (.seq (.sr (.move ?_)))))
   refine .eqi (.z ?_)
   refine .condF rfl (cB9 (decide_eq_false (by omega))) ?_
   refine .skip (.next (.sr (.move ?_)))
   refine .cvt ?_ un3 cx
   refine .cast (d:=10) (u:=.int .u64 ((n:Nat):Int)) rfl (cI9 (IntWalk.u64_in _ (by omega))) ?_
   refine .assign (.z (.seq (.sr (.move ?_))))
   refine .lss (.z ?_)
   refine .condF rfl (cB9 (decide_eq_false (by omega))) ?_
   refine .skip (.next (.sr (.assign (.z (.seq (.block ?_))))))
   refine .emp (A:=rowR 5 1 (.slice none 0 0) 0 (bvs [])) (rowR.nil _) ?_
   refine .loopN 2 (RC.succ ?_)
   refine .seq (.sr (.move ?_))
   refine .gtr (.z ?_)
   refine .condT rfl (cB9 (decide_eq_true (by omega))) ?_
   refine .skip (.next (.block (.sr (.move (.move ?_)))))
   refine .bin (r:=.int .u64 ((n:Nat) % 10:Int)) ?_ (bx fun w=>by simp [a6,Op.intDiv,Int.tmod_eq_emod_of_nonneg (Int.natCast_nonneg _)]) rfl rfl rfl
   refine .cast (d:=19) (u:=.int .u64 (((n) % 10:Nat):Int)) rfl (cI9 (by omega)) ?_
   refine .addw ?_
   refine .cast (d:=20) (u:=.int .u64 ((48+(n) % 10:Nat):Int)) rfl (cI9 (by rw [show (48:Int)+(((n) % 10:Nat):Int)=((48+(n) % 10:Nat):Int) by omega];exact IntWalk.u64_in _ (by omega))) ?_
   refine .cvt ?_ cx un5
   refine .cast (d:=21) (u:=.int .u8 ((48+(n) % 10:Nat):Int)) rfl (cI9 (IntWalk.u8_in _ (by omega))) ?_
   refine .buildS (fun b22=>?_) (bs1D _)
   refine .append (v:=.slice none 0 0) (m:=1) (k:=0) (xs:=bvs []) (news:=[.int .u8 ((48+(n) % 10:Nat):Int)]) so79 (by decide) (by repeat (first | exact .here | apply Rem.there | apply Repl.there | apply Mem.there)) (Reads.pt (cs:=#[.int .u8 ((48+(n) % 10:Nat):Int)])) (by repeat (first | exact .here | apply Rem.there | apply Repl.there | apply Mem.there)) rfl (by simp [Value.single]) (by decide) (by decide) ⟨_,z5,rfl⟩ (fun v0 hv0=>?_)
   rw [show bvs []++[.int .u8 ((48+(n) % 10:Nat):Int)]=bvs ([]++[digD (n)]) by rw [<- ox];unfold bvs;rw [List.map_append];rfl]
   simp only [List.cons_append,List.nil_append]
   refine .assign (.y (.move ?_))
   refine .bin (r:=.int .u64 ((n:Nat) / 10:Int)) ?_ (bx fun w=>by simp [a6,Op.intDiv,Int.tdiv_eq_ediv_of_nonneg (Int.natCast_nonneg _)];exact IntWalk.u64_in _ (by omega)) rfl rfl rfl
   refine .cast (d:=25) (u:=.int .u64 ((n / 10:Nat):Int)) rfl (cI9 (by omega)) ?_
   refine .assign (.nil (.blockNormal ?_))
   refine .again (RC.succ ?_)
   refine .seq (.sr (.move ?_))
   refine .gtr (.z ?_)
   refine .fact (ae (el:=5) (size:=1) (k:=1) (v:=v0) (xs:=bvs [digD n])) fun ⟨A8,c8,hv8,hR8,_,_,_⟩=>?_
   subst hv8
   obtain ⟨ab,ao,rfl⟩:∃ ab ao,A8=some ⟨ab,ao,none⟩:=by
    cases A8 with
    | none=>exact absurd (show bvs [digD n]=[] from hR8) (by simp [bvs])
    | some a =>
     obtain ⟨x,y,z⟩:=a
     have:z=none:=hR8.1
     subst this
     exact ⟨x,y,rfl⟩
   refine .condF rfl (cB9 (decide_eq_false (by omega))) ?_
   refine .exit (.thenExit (.thenExit (.blockExit (?_))))
   refine .next (.sr (.assign (.z (.seq (.sr (.move ?_))))))
   refine .lss (.z ?_)
   refine .condF rfl (cB9 (decide_eq_false (by omega))) ?_
   refine .skip (.next (.seq (.sr (.move ?_))))
   refine .lenS ?_ sl79
   refine .sub ?_
   refine .assign (.z (.block ?_))
   refine .emp (A:=rowR 5 1 (.slice none 0 0) 0 (bvs [])) (rowR.nil _) ?_
   refine .loopN 2 (RC.succ ?_)
   refine .seq (.sr (.move ?_))
   refine .geq (.z ?_)
   refine .condT rfl (cB9 (by decide)) ?_
   refine .skip (.next (.seq (.block (.region (.move (.move (.move ?_)))))))
   refine .idx1 ?_ so79 (hp:=by decide)
   refine .ldR (i:=0) (v:=bv (digD (n))) ?_ sc5 hR8 rfl
   refine .cast (d:=42) (u:=.int .u8 ((48+(n) % 10:Nat):Int)) rfl (ox _) ?_
   refine .buildS (fun b43_0=>?_) (bs1D _)
   refine .append (v:=.slice none 0 0) (m:=1) (k:=0) (xs:=bvs []) (news:=[.int .u8 ((48+(n) % 10:Nat):Int)]) so79 (by decide) (by repeat (first | exact .here | apply Rem.there | apply Repl.there | apply Mem.there)) (Reads.pt (cs:=#[.int .u8 ((48+(n) % 10:Nat):Int)])) (by repeat (first | exact .here | apply Rem.there | apply Repl.there | apply Mem.there)) rfl (by simp [Value.single]) (by decide) (by decide) ⟨_,z5,rfl⟩ (fun w0 hw0=>?_)
   rw [show bvs []++[.int .u8 ((48+(n) % 10:Nat):Int)]=bvs ([]++[digD (n)]) by rw [<- ox];unfold bvs;rw [List.map_append];rfl]
   simp only [List.cons_append,List.nil_append]
   refine .assign (.nil (.blockNormal (.next (.region (.move ?_)))))
   refine .sub ?_
   refine .assign (.nil ?_)
   refine .again (RC.succ ?_)
   refine .seq (.sr (.move ?_))
   refine .geq (.z ?_)
   refine .fact (ae (el:=5) (size:=1) (k:=1) (v:=w0) (xs:=bvs [digD (n)])) fun ⟨A9,c9,hv9,hR9,_,_,_⟩=>?_
   subst hv9
   refine .condF rfl (cB9 (by decide)) ?_
   refine .exit (.thenExit (.thenExit (.blockExit (?_))))
   refine .next (.sr (.move ?_))
   refine .cvtBS (xs:=[digD (n)]) ?_ by79 st9 hR9 rfl
   refine .assign (.z (.ret (?_)))
   exact .ret1 (h1:=.tmp (t:=2) rfl) ⟨_,⟨congrArg sv (by unfold decB;rw [if_pos h10]),rfl⟩,Am.auto⟩
  ·obtain ⟨m1,hm1⟩:∃ m1,m1=n / 10:=⟨_,rfl⟩
   have hm1b:m1 < 10/\0 < m1:=by omega
   refine .sr (.assign (.z (.seq (.sr (.move ?_)))))
   refine .eqi (.z ?_)
   refine .condF rfl (cB9 (decide_eq_false (by omega))) ?_
   refine .skip (.next (.sr (.move ?_)))
   refine .cvt ?_ un3 cx
   refine .cast (d:=10) (u:=.int .u64 ((n:Nat):Int)) rfl (cI9 (IntWalk.u64_in _ (by omega))) ?_
   refine .assign (.z (.seq (.sr (.move ?_))))
   refine .lss (.z ?_)
   refine .condF rfl (cB9 (decide_eq_false (by omega))) ?_
   refine .skip (.next (.sr (.assign (.z (.seq (.block ?_))))))
   refine .emp (A:=rowR 5 1 (.slice none 0 0) 0 (bvs [])) (rowR.nil _) ?_
   refine .loopN 3 (RC.succ ?_)
   refine .seq (.sr (.move ?_))
   refine .gtr (.z ?_)
   refine .condT rfl (cB9 (decide_eq_true (by omega))) ?_
   refine .skip (.next (.block (.sr (.move (.move ?_)))))
   refine .bin (r:=.int .u64 ((n:Nat) % 10:Int)) ?_ (bx fun w=>by simp [a6,Op.intDiv,Int.tmod_eq_emod_of_nonneg (Int.natCast_nonneg _)]) rfl rfl rfl
   refine .cast (d:=19) (u:=.int .u64 (((n) % 10:Nat):Int)) rfl (cI9 (by omega)) ?_
   refine .addw ?_
   refine .cast (d:=20) (u:=.int .u64 ((48+(n) % 10:Nat):Int)) rfl (cI9 (by rw [show (48:Int)+(((n) % 10:Nat):Int)=((48+(n) % 10:Nat):Int) by omega];exact IntWalk.u64_in _ (by omega))) ?_
   refine .cvt ?_ cx un5
   refine .cast (d:=21) (u:=.int .u8 ((48+(n) % 10:Nat):Int)) rfl (cI9 (IntWalk.u8_in _ (by omega))) ?_
   refine .buildS (fun b22=>?_) (bs1D _)
   refine .append (v:=.slice none 0 0) (m:=1) (k:=0) (xs:=bvs []) (news:=[.int .u8 ((48+(n) % 10:Nat):Int)]) so79 (by decide) (by repeat (first | exact .here | apply Rem.there | apply Repl.there | apply Mem.there)) (Reads.pt (cs:=#[.int .u8 ((48+(n) % 10:Nat):Int)])) (by repeat (first | exact .here | apply Rem.there | apply Repl.there | apply Mem.there)) rfl (by simp [Value.single]) (by decide) (by decide) ⟨_,z5,rfl⟩ (fun v0 hv0=>?_)
   rw [show bvs []++[.int .u8 ((48+(n) % 10:Nat):Int)]=bvs ([]++[digD (n)]) by rw [<- ox];unfold bvs;rw [List.map_append];rfl]
   simp only [List.cons_append,List.nil_append]
   refine .assign (.y (.move ?_))
   refine .bin (r:=.int .u64 ((n:Nat) / 10:Int)) ?_ (bx fun w=>by simp [a6,Op.intDiv,Int.tdiv_eq_ediv_of_nonneg (Int.natCast_nonneg _)];exact IntWalk.u64_in _ (by omega)) rfl rfl rfl
   refine .cast (d:=25) (u:=.int .u64 ((m1:Nat):Int)) rfl (cI9 (by omega)) ?_
   refine .assign (.nil (.blockNormal ?_))
   refine .again (RC.succ ?_)
   refine .seq (.sr (.move ?_))
   refine .gtr (.z ?_)
   refine .condT rfl (cB9 (decide_eq_true (by omega))) ?_
   refine .skip (.next (.block (.sr (.move (.move ?_)))))
   refine .bin (r:=.int .u64 ((m1:Nat) % 10:Int)) ?_ (bx fun w=>by simp [a6,Op.intDiv,Int.tmod_eq_emod_of_nonneg (Int.natCast_nonneg _)]) rfl rfl rfl
   refine .cast (d:=19) (u:=.int .u64 (((m1) % 10:Nat):Int)) rfl (cI9 (by omega)) ?_
   refine .addw ?_
   refine .cast (d:=20) (u:=.int .u64 ((48+(m1) % 10:Nat):Int)) rfl (cI9 (by rw [show (48:Int)+(((m1) % 10:Nat):Int)=((48+(m1) % 10:Nat):Int) by omega];exact IntWalk.u64_in _ (by omega))) ?_
   refine .cvt ?_ cx un5
   refine .cast (d:=21) (u:=.int .u8 ((48+(m1) % 10:Nat):Int)) rfl (cI9 (IntWalk.u8_in _ (by omega))) ?_
   refine .buildS (fun b22=>?_) (bs1D _)
   refine .append (v:=v0) (m:=1) (k:=1) (xs:=bvs [digD n]) (news:=[.int .u8 ((48+(m1) % 10:Nat):Int)]) so79 (by decide) (by repeat (first | exact .here | apply Rem.there | apply Repl.there | apply Mem.there)) (Reads.pt (cs:=#[.int .u8 ((48+(m1) % 10:Nat):Int)])) (by repeat (first | exact .here | apply Rem.there | apply Repl.there | apply Mem.there)) rfl (by simp [Value.single]) (by decide) (by decide) ⟨_,z5,rfl⟩ (fun v1 hv1=>?_)
   rw [show bvs [digD n]++[.int .u8 ((48+(m1) % 10:Nat):Int)]=bvs ([digD n]++[digD (m1)]) by rw [<- ox];unfold bvs;rw [List.map_append];rfl]
   simp only [List.cons_append,List.nil_append]
   refine .assign (.y (.move ?_))
   refine .bin (r:=.int .u64 ((m1:Nat) / 10:Int)) ?_ (bx fun w=>by simp [a6,Op.intDiv,Int.tdiv_eq_ediv_of_nonneg (Int.natCast_nonneg _)];exact IntWalk.u64_in _ (by omega)) rfl rfl rfl
   refine .cast (d:=25) (u:=.int .u64 ((m1 / 10:Nat):Int)) rfl (cI9 (by omega)) ?_
   refine .assign (.nil (.blockNormal ?_))
   refine .again (RC.succ ?_)
   refine .seq (.sr (.move ?_))
   refine .gtr (.z ?_)
   refine .fact (ae (el:=5) (size:=1) (k:=2) (v:=v1) (xs:=bvs [digD n,digD m1])) fun ⟨A8,c8,hv8,hR8,_,_,_⟩=>?_
   subst hv8
   obtain ⟨ab,ao,rfl⟩:∃ ab ao,A8=some ⟨ab,ao,none⟩:=by
    cases A8 with
    | none=>exact absurd (show bvs [digD n,digD m1]=[] from hR8) (by simp [bvs])
    | some a =>
     obtain ⟨x,y,z⟩:=a
     have:z=none:=hR8.1
     subst this
     exact ⟨x,y,rfl⟩
   refine .condF rfl (cB9 (decide_eq_false (by omega))) ?_
   refine .exit (.thenExit (.thenExit (.blockExit (?_))))
   refine .next (.sr (.assign (.z (.seq (.sr (.move ?_))))))
   refine .lss (.z ?_)
   refine .condF rfl (cB9 (decide_eq_false (by omega))) ?_
   refine .skip (.next (.seq (.sr (.move ?_))))
   refine .lenS ?_ sl79
   refine .sub ?_
   refine .assign (.z (.block ?_))
   refine .emp (A:=rowR 5 1 (.slice none 0 0) 0 (bvs [])) (rowR.nil _) ?_
   refine .loopN 3 (RC.succ ?_)
   refine .seq (.sr (.move ?_))
   refine .geq (.z ?_)
   refine .condT rfl (cB9 (by decide)) ?_
   refine .skip (.next (.seq (.block (.region (.move (.move (.move ?_)))))))
   refine .idx1 ?_ so79 (hp:=by decide)
   refine .ldR (i:=1) (v:=bv (digD (m1))) ?_ sc5 hR8 rfl
   refine .cast (d:=42) (u:=.int .u8 ((48+(m1) % 10:Nat):Int)) rfl (ox _) ?_
   refine .buildS (fun b43_0=>?_) (bs1D _)
   refine .append (v:=.slice none 0 0) (m:=1) (k:=0) (xs:=bvs []) (news:=[.int .u8 ((48+(m1) % 10:Nat):Int)]) so79 (by decide) (by repeat (first | exact .here | apply Rem.there | apply Repl.there | apply Mem.there)) (Reads.pt (cs:=#[.int .u8 ((48+(m1) % 10:Nat):Int)])) (by repeat (first | exact .here | apply Rem.there | apply Repl.there | apply Mem.there)) rfl (by simp [Value.single]) (by decide) (by decide) ⟨_,z5,rfl⟩ (fun w0 hw0=>?_)
   rw [show bvs []++[.int .u8 ((48+(m1) % 10:Nat):Int)]=bvs ([]++[digD (m1)]) by rw [<- ox];unfold bvs;rw [List.map_append];rfl]
   simp only [List.cons_append,List.nil_append]
   refine .assign (.nil (.blockNormal (.next (.region (.move ?_)))))
   refine .sub ?_
   refine .assign (.nil ?_)
   refine .again (RC.succ ?_)
   refine .seq (.sr (.move ?_))
   refine .geq (.z ?_)
   refine .condT rfl (cB9 (by decide)) ?_
   refine .skip (.next (.seq (.block (.region (.move (.move (.move ?_)))))))
   refine .idx1 ?_ so79 (hp:=by decide)
   refine .ldR (i:=0) (v:=bv (digD (n))) ?_ sc5 hR8 rfl
   refine .cast (d:=42) (u:=.int .u8 ((48+(n) % 10:Nat):Int)) rfl (ox _) ?_
   refine .buildS (fun b43_1=>?_) (bs1D _)
   refine .append (v:=w0) (m:=1) (k:=1) (xs:=bvs [digD (m1)]) (news:=[.int .u8 ((48+(n) % 10:Nat):Int)]) so79 (by decide) (by repeat (first | exact .here | apply Rem.there | apply Repl.there | apply Mem.there)) (Reads.pt (cs:=#[.int .u8 ((48+(n) % 10:Nat):Int)])) (by repeat (first | exact .here | apply Rem.there | apply Repl.there | apply Mem.there)) rfl (by simp [Value.single]) (by decide) (by decide) ⟨_,z5,rfl⟩ (fun w1 hw1=>?_)
   rw [show bvs [digD (m1)]++[.int .u8 ((48+(n) % 10:Nat):Int)]=bvs ([digD (m1)]++[digD (n)]) by rw [<- ox];unfold bvs;rw [List.map_append];rfl]
   simp only [List.cons_append,List.nil_append]
   refine .assign (.nil (.blockNormal (.next (.region (.move ?_)))))
   refine .sub ?_
   refine .assign (.nil ?_)
   refine .again (RC.succ ?_)
   refine .seq (.sr (.move ?_))
   refine .geq (.z ?_)
   refine .fact (ae (el:=5) (size:=1) (k:=2) (v:=w1) (xs:=bvs [digD (m1),digD (n)])) fun ⟨A9,c9,hv9,hR9,_,_,_⟩=>?_
   subst hv9
   refine .condF rfl (cB9 (by decide)) ?_
   refine .exit (.thenExit (.thenExit (.blockExit (?_))))
   refine .next (.sr (.move ?_))
   refine .cvtBS (xs:=[digD (m1),digD (n)]) ?_ by79 st9 hR9 rfl
   refine .assign (.z (.ret (?_)))
   exact .ret1 (h1:=.tmp (t:=2) rfl) ⟨_,⟨congrArg sv (by unfold decB;rw [if_neg h10];rw [hm1]),rfl⟩,Am.auto⟩
theorem Ah {gp f o:Nat} {x:PS} {kv:List (KG×Int)} {gn:aa} {t p:Nat} {now:Int} (hg:am gn=true) (ht:1<=t/\t<=1125899906842624) (hp:p < 8) (ho:o<=1125899906842624) (hnow:0<=now/\now<=1125899906842624) (hk:kget kv (gn,t,p)=none) (hbig:200<=kv.length):Spec Tryz.prog 24 #[.pointer (some ⟨gp,0,none⟩),.agg #[sv gn,.int .i64 ((t:Nat):Int),.int .i64 ((p:Nat):Int)],.int .i64 ((o:Nat):Int),.int .i64 now] [GR gp f x kv] fun F v M=>v=.int .i64 2/\M=GR gp f x kv :: F:=by
 refine Spec.intro Tryz.func24 rfl rfl fun B F=>?_
 simp only [Tryz.ntmps24,List.cons_append,List.nil_append,env0,Nat.reduceAdd]
 refine .openR (GR.opens gp f x kv) fun y hy=>?_
 obtain ⟨pp,m,es,cl⟩:=y
 simp only [List.cons_append,List.nil_append] at hy ⊢
 refine .sr ?_
 refine .box fun b5=>?_
 refine .assign (.z (.seq (.sr (.move ?_))))
 refine .eqNil ?_ Ca
 refine .move (.gT (.move (.gT (.nilCheck (.gT ?_)))))
 refine .fa ?_ yc
 refine .gT ?_
 refine .ld ?_ sc30
 refine .gT ?_
 refine .eqNil ?_ Ry
 refine .pickF (.z ?_)
 refine .condF rfl rfl ?_
 refine .skip (.next (.seq (.sr ?_)))
 refine .ldA ?_ i8
 refine .call (hc:=Tryz.call53) (sp:=Kq hg ht hp) (h:=?_)
 rintro _ _ ⟨rfl,rfl⟩
 refine .not ?_
 refine .move (.gT (.move (.gT ?_)))
 refine .lss ?_
 refine .pickF (.move ?_)
 refine .cast (d:=29) (u:=.bool false) rfl (cB9 (decide_eq_false (by omega))) ?_
 refine .gT (.move (.gT ?_))
 refine .gtr ?_
 refine .pickF (.move ?_)
 refine .cast (d:=33) (u:=.bool false) rfl (cB9 (decide_eq_false (by omega))) ?_
 refine .gT (.move (.gT ?_))
 refine .lss ?_
 refine .pickF (.move ?_)
 refine .cast (d:=37) (u:=.bool false) rfl (cB9 (decide_eq_false (by omega))) ?_
 refine .gT (.move (.gT ?_))
 refine .gtr ?_
 refine .pickF (.z ?_)
 refine .condF rfl (cB9 (decide_eq_false (by omega))) ?_
 refine .skip (.next (.seq (.seq ?_)))
 refine .dr ([pt gp (.cells #[.pointer (some ⟨pp,0,none⟩),.map (some m)] 101 (0,0)),pt b5 (.cells #[sv gn,.int .i64 ((t:Nat):Int),.int .i64 ((p:Nat):Int)] 54 (0,0)),pt m (.map es cl)]) [] 11 mixed .autoJ ?_
 refine .tk 0 rfl .move ?_
 refine .tk 1 rfl .nilCheck ?_
 refine .tk 2 rfl (.fa ie) ?_
 refine .tk 3 rfl (.ld sc99) ?_
 refine .tk 4 rfl (.ldA i8) ?_
 refine .tk 5 rfl ((Qt.lookOk (k:=(gn,t,p)) kgL hy mp99 zv3).eq (v':=.tuple #[.int .i64 0,.bool false]) (by rw [wc,hk];rfl)) ?_
 refine .tk 6 rfl .move ?_
 refine .tk 7 rfl .extract ?_
 refine .tk 8 rfl .extract ?_
 refine .tk 9 rfl .assign ?_
 refine .tk 10 rfl .assign ?_
 refine .fin ?_
 refine .next (.sr (.move ?_))
 refine .not ?_
 refine .move (.gT (.move (.gT (.nilCheck (.gT ?_)))))
 refine .fa ?_ ie
 refine .gT ?_
 refine .ld ?_ sc99
 refine .gT ?_
 refine .lenM ?_ mp99
 refine .cast (d:=57) (u:=.int .i64 ((kv.length:Nat):Int)) rfl (congrArg (fun z:Nat=>Value.int .i64 (z:Int)) (by rw [hy.length,Kt])) ?_
 refine .gT ?_
 refine .geq ?_
 refine .pickT (.z ?_)
 refine .condT rfl (cB9 (decide_eq_true (by omega))) ?_
 refine .sr (.assign (.z ?_))
 refine .ret (.thenRet (?_))
 refine .shutR (GR.opens gp f x kv) (pp,m,es,cl) hy ?_
 exact .ret1 (h1:=.tmp (t:=8) rfl) ⟨_,⟨rfl,rfl⟩,Am.auto⟩
theorem iv {n:Int} (hn64:-9223372036854775808<=n/\n<=9223372036854775807):Spec Tryz.prog 6 #[.int .i64 n] [] fun F v M=>v=.bool true/\M=F:=by
 refine Spec.intro Tryz.func6 rfl rfl fun B F=>?_
 simp only [Tryz.ntmps6,List.cons_append,List.nil_append,env0,Nat.reduceAdd]
 refine .sr (.assign (.z (.seq (.sr (.move ?_)))))
 refine .lss ?_
 refine .move ?_
 refine .split (t:=16) rfl (fun g0=>?_) (fun g0=>?_)
 ·refine .gF (.gF (.pickT (.z ?_)))
  refine .condT rfl rfl ?_
  refine .sr ?_
  refine .call (hc:=Tryz.call22) (sp:=go) (h:=?_)
  rintro _ _ ⟨rfl,rfl⟩
  refine .assign (.z ?_)
  refine .ret (.thenRet (?_))
  exact .ret1 (h1:=.tmp (t:=2) rfl) ⟨_,⟨rfl,rfl⟩,Am.auto⟩
 ·refine .gT (.move (.gT ?_))
  refine .gtr ?_
  refine .pickF (.z ?_)
  refine .cond rfl (fun g1=>?_) (fun g1=>?_)
  ·refine .sr ?_
   refine .call (hc:=Tryz.call22) (sp:=go) (h:=?_)
   rintro _ _ ⟨rfl,rfl⟩
   refine .assign (.z ?_)
   refine .ret (.thenRet (?_))
   exact .ret1 (h1:=.tmp (t:=2) rfl) ⟨_,⟨rfl,rfl⟩,Am.auto⟩
  ·have h0:¬ n < 0:=of_decide_eq_false g0
   have h1:¬ n > 215:=of_decide_eq_false g1
   obtain ⟨n,rfl⟩:∃ m:Nat,n=((m:Nat):Int):=⟨n.toNat,by omega⟩
   refine .skip (.next (.sr ?_))
   refine .call (hc:=Tryz.call23) (sp:=we) (h:=?_)
   rintro _ _ ⟨d,f,gp,rfl,rfl⟩
   refine .move ?_
   refine .extract (.extract (.extract (.extract ?_)))
   refine .assign (.assign (.assign (.assign (.z (.seq (.sr (.move ?_)))))))
   refine .not (.z ?_)
   refine .condF rfl rfl ?_
   refine .skip (.next (.seq (.sr (.assign (.z (.block ?_))))))
   refine .loopA (σ:=Nat×PS) (fun y=>[(0,.int .i64 ((n:Nat):Int)),(4,.pointer (some ⟨f,0,none⟩)),(5,.pointer (some ⟨gp,0,none⟩)),(7,.int .i64 ((y.1:Nat):Int))]) (fun y=>[GR gp f y.2 (ev (jn (min y.1 200)))]++F) (fun y=>y.1<=n/\GkH y.2 (jn (min y.1 200))) (fun y=>n - y.1) (0,⟨[],0,[]⟩) ⟨Nat.zero_le _,GkH.zero⟩ ?_
   rintro y hy
   obtain ⟨i,x⟩:=y
   obtain ⟨hi,hx⟩:=hy
   simp only at hi hx ⊢
   refine .seq (.sr (.move (.move ?_)))
   refine .lss (.z ?_)
   refine .cond rfl (fun hd=>?_) (fun hd=>?_)
   ·have hin:i < n:=by have h:((i:Nat):Int) < ((n:Nat):Int):=of_decide_eq_true hd;omega
    have hkok:=p9 (i / 8) (by omega)
    by_cases hi2:i < 200
    ·have hmn:min i 200=i:=by omega
     have hmn2:min (i+1) 200=i+1:=by omega
     rw [hmn] at hx ⊢
     have hkv:=rr i (by omega)
     have hxgr:=hx.gr
     rw [fw] at hxgr
     refine .skip (.next (.seq (.block (.sr (.move (.move ?_))))))
     refine .quo ?_
     refine .cast (d:=36) (u:=.int .i64 ((i / 8:Nat):Int)) rfl (cI9 (by omega)) ?_
     refine .call (hc:=Tryz.call25) (sp:=mb (n:=i / 8) (by omega)) (h:=?_)
     rintro _ _ ⟨rfl,rfl⟩
     refine .catS [103] (decB (i / 8)) ?_ (by have:=(p9 (i / 8) (by omega)).2;simp only [List.length_cons] at this;show 1+_<=_;omega)
     refine .move ?_
     refine .rem ?_
     refine .cast (d:=40) (u:=.int .i64 ((i % 8:Nat):Int)) rfl (cI9 (by omega)) ?_
     refine .build ?_ (yg _ _ _)
     refine .move ?_
     refine .call (hc:=Tryz.call24) (sp:=ow (gp:=gp) (f:=f) (kv:=ev (jn i)) (n:=i) (o:=i) (gn:=103 :: decB (i / 8)) (t:=3) (p:=i % 8) (now:=0) hxgr (by omega) hkok.1 hkok.2 (by decide) (by omega) (by omega) (by decide) (.inr (by omega))) (h:=?_)
     rintro _ _ ⟨rfl,rfl⟩
     refine .assign (.x (.move ?_))
     refine .lss ?_
     refine .move ?_
     refine .cast (d:=46) (u:=.bool true) rfl (cB9 (decide_eq_true (by omega))) ?_
     refine .gT (.move (.gT ?_))
     refine .nei ?_
     refine .pickT (.move (.gT (.move (.gT ?_))))
     refine .geq ?_
     refine .gT (.move ?_)
     refine .cast (d:=53) (u:=.bool false) rfl (cB9 (decide_eq_false (by omega))) ?_
     refine .gF (.gF (.gT (.pickF (.pickF (.z ?_)))))
     refine .condF rfl rfl ?_
     refine .skip (.blockNormal (.next (.region (.move ?_))))
     refine .add ?_
     refine .assign (.nil ?_)
     have hadd:=hx.add (uj hi2) (by rw [fw];omega)
     rw [fw,<-ma] at hadd
     have hks:=jm (jn i) (keyM i,i,0)
     rw [<- ma] at hks
     refine .to (A:=GR gp f (x.add 2048 (grB i (103 :: decB (i / 8),3,i % 8) i 0)) (kput (ev (jn i)) (103 :: decB (i / 8),3,i % 8) ((i:Nat):Int))) (A':=GR gp f (x.add 2048 (grB i (keyM i) i 0)) (ev (jn (min (i+1) 200)))) (fun h hh=>by rw [hmn2,hks];exact hh) ?_
     exact .back (i+1,x.add 2048 (grB i (keyM i) i 0)) ⟨hin,by rw [hmn2];exact hadd⟩ (show n - (i+1) < n - i by omega)
    ·have hmn:min i 200=200:=by omega
     have hmn2:min (i+1) 200=200:=by omega
     rw [hmn] at hx ⊢
     have hkv:=rr 200 (by omega)
     have hkg:=ly 200 i (by omega) (by omega)
     rw [if_neg hi2] at hkg
     obtain ⟨H,hH⟩:∃ H,H=jn 200:=⟨_,rfl⟩
     rw [<- hH] at hx hkv hkg ⊢
     refine .skip (.next (.seq (.block (.sr (.move (.move ?_))))))
     refine .quo ?_
     refine .cast (d:=36) (u:=.int .i64 ((i / 8:Nat):Int)) rfl (cI9 (by omega)) ?_
     refine .call (hc:=Tryz.call25) (sp:=mb (n:=i / 8) (by omega)) (h:=?_)
     rintro _ _ ⟨rfl,rfl⟩
     refine .catS [103] (decB (i / 8)) ?_ (by have:=(p9 (i / 8) (by omega)).2;simp only [List.length_cons] at this;show 1+_<=_;omega)
     refine .move ?_
     refine .rem ?_
     refine .cast (d:=40) (u:=.int .i64 ((i % 8:Nat):Int)) rfl (cI9 (by omega)) ?_
     refine .build ?_ (yg _ _ _)
     refine .move ?_
     refine .call (hc:=Tryz.call24) (sp:=Ah (gp:=gp) (f:=f) (x:=x) (kv:=ev H) (o:=i) (gn:=103 :: decB (i / 8)) (t:=3) (p:=i % 8) (now:=0) hkok.1 (by decide) (by omega) (by omega) (by decide) hkg (by omega)) (h:=?_)
     rintro _ _ ⟨rfl,rfl⟩
     refine .assign (.x (.move ?_))
     refine .lss ?_
     refine .move ?_
     refine .cast (d:=46) (u:=.bool false) rfl (cB9 (decide_eq_false (by omega))) ?_
     refine .gF (.gF (.pickF (.move (.gT (.move ?_)))))
     refine .gT ?_
     refine .geq ?_
     refine .gT (.move ?_)
     refine .cast (d:=53) (u:=.bool true) rfl (cB9 (decide_eq_true (by omega))) ?_
     refine .gT (.move (.gT ?_))
     refine .nei ?_
     refine .gT (.pickT (.pickF (.z ?_)))
     refine .condF rfl rfl ?_
     refine .skip (.blockNormal (.next (.region (.move ?_))))
     refine .add ?_
     refine .assign (.nil ?_)
     refine .to (A:=GR gp f x (ev H)) (A':=GR gp f x (ev (jn (min (i+1) 200)))) (fun h hh=>by rw [hmn2,<-hH];exact hh) ?_
     exact .back (i+1,x) ⟨hin,by rw [hmn2,<-hH];exact hx⟩ (show n - (i+1) < n - i by omega)
   ·have hge:i=n:=by have h:¬ ((i:Nat):Int) < ((n:Nat):Int):=of_decide_eq_false hd;have h2:i<=n:=hi;omega
    subst hge
    by_cases hn0:i=0
    ·subst hn0
     refine .exit (.thenExit (.thenExit (.blockExit (?_))))
     refine .next (.seq (.sr (.move ?_)))
     refine .gtr ?_
     refine .move (.gF (.gF (.gF (.gF (.pickF ?_)))))
     refine .z ?_
     refine .condF rfl rfl ?_
     refine .skip (.next (.sr (.move ?_)))
     obtain ⟨hist,hhd⟩:∃ hist:List KH,hist=jn (min 0 200):=⟨_,rfl⟩
     rw [<- hhd] at hx ⊢
     have hlen:(ev hist).length=min 0 200:=by rw [hhd];rfl
     have hget:∀ j,1<=j->j < min 0 200->kget (ev hist) (keyM j)=some ((j:Nat):Int):=fun j h1 h2=>by omega
     have hl5:hist.length<=500:=by rw [hhd,fw];omega
     obtain ⟨x2,hx2⟩:∃ x2,x2=x:=⟨_,rfl⟩
     rw [<- hx2] at hx ⊢
     refine .openR (GR.opens gp f x2 (ev hist)) fun y hy=>?_
     obtain ⟨pp,m,es,cl⟩:=y
     simp only [List.cons_append,List.nil_append] at hy ⊢
     refine .call (hc:=Tryz.call26) (sp:=K1 (f:=f) hx hl5) (h:=?_)
     rintro _ _ ⟨gq,rfl,rfl⟩
     refine .move ?_
     refine .extract (.extract ?_)
     refine .assign (.assign (.z (.seq (.sr (.move ?_)))))
     refine .nei ?_
     refine .move (.gT (.move (.gT ?_)))
     refine .eqNil ?_ Ca
     refine .pickF (.move (.gT (.move (.gT ?_))))
     refine .call (hc:=Tryz.call27) (sp:=Kz (gp:=gq) (f:=f) (kv:=ev hist)) (h:=?_)
     rintro _ _ ⟨rfl,rfl⟩
     rw [hlen]
     refine .gT (.move (.gT ?_))
     refine .minI ?_
     refine .gT ?_
     refine .nei ?_
     refine .pickF (.z ?_)
     refine .condF rfl (cB9 (by first | (simp;done) | (simp;omega) | (split<;>simp<;>omega))) ?_
     refine .skip (.next (.seq (.sr (.assign (.z (.block ?_))))))
     refine .loopA (σ:=Nat) (fun j=>[(0,.int .i64 ((0:Nat):Int)),(9,.pointer (some ⟨gq,0,none⟩)),(11,.int .i64 ((j:Nat):Int))]) (fun j=>[GR gq f x2 (ev hist)]++F) (fun j=>1<=j/\j<=1+min 0 200) (fun j=>300 - j) 1 ⟨Nat.le_refl _,by omega⟩ ?_
     rintro j hj
     obtain ⟨hj1,hj2⟩:=hj
     by_cases hjm:j < min 0 200
     ·refine .seq (.sr (.move (.move ?_)))
      refine .lss ?_
      refine .move ?_
      refine .cast (d:=87) (u:=.bool true) rfl (cB9 (decide_eq_true (by omega))) ?_
      refine .gT (.move (.gT ?_))
      refine .lss ?_
      refine .pickT (.z ?_)
      refine .condT rfl (cB9 (decide_eq_true (by omega))) ?_
      refine .skip (.next (.seq (.block (.sr (.move (.move ?_))))))
      refine .quo ?_
      refine .cast (d:=96) (u:=.int .i64 ((j / 8:Nat):Int)) rfl (cI9 (by omega)) ?_
      refine .call (hc:=Tryz.call25) (sp:=mb (n:=j / 8) (by omega)) (h:=?_)
      rintro _ _ ⟨rfl,rfl⟩
      refine .catS [103] (decB (j / 8)) ?_ (by have:=(p9 (j / 8) (by omega)).2;simp only [List.length_cons] at this;show 1+_<=_;omega)
      refine .move ?_
      refine .rem ?_
      refine .cast (d:=100) (u:=.int .i64 ((j % 8:Nat):Int)) rfl (cI9 (by omega)) ?_
      refine .build ?_ (yg _ _ _)
      refine .call (hc:=Tryz.call28) (sp:=yd (gp:=gq) (f:=f) (gn:=103 :: decB (j / 8)) (t:=3) (p:=j % 8) (hget j hj1 (by omega))) (h:=?_)
      rintro _ _ ⟨rfl,rfl⟩
      refine .move ?_
      refine .extract (.extract (.assign (.assign (.x (.move ?_)))))
      refine .nei ?_
      refine .move (.gT (.move (.gT (.move (.gT ?_)))))
      refine .nei ?_
      refine .pickF (.z ?_)
      refine .condF rfl (cB9 (by simp)) ?_
      refine .skip (.blockNormal (.next (.region (.move ?_))))
      refine .add ?_
      refine .assign (.nil ?_)
      exact .back (j+1) ⟨by omega,by omega⟩ (by omega)
     ·by_cases hjn:j < 0
      ·refine .seq (.sr (.move (.move ?_)))
       refine .lss ?_
       refine .move ?_
       refine .cast (d:=87) (u:=.bool true) rfl (cB9 (decide_eq_true (by omega))) ?_
       refine .gT (.move (.gT ?_))
       refine .lss ?_
       refine .pickT (.z ?_)
       refine .condF rfl (cB9 (decide_eq_false (by omega))) ?_
       refine .exit (.thenExit (.thenExit (.blockExit (?_))))
       refine .next (.sr ?_)
       refine .call (hc:=Tryz.call22) (sp:=go) (h:=?_)
       rintro _ _ ⟨rfl,rfl⟩
       refine .assign (.z (.ret (?_)))
       exact .ret1 (h1:=.tmp (t:=2) rfl) ⟨_,⟨rfl,rfl⟩,Am.auto⟩
      ·refine .seq (.sr (.move (.move ?_)))
       refine .lss ?_
       refine .move ?_
       refine .cast (d:=87) (u:=.bool false) rfl (cB9 (decide_eq_false (by omega))) ?_
       refine .gF (.gF (.pickF (.z ?_)))
       refine .condF rfl rfl ?_
       refine .exit (.thenExit (.thenExit (.blockExit (?_))))
       refine .next (.sr ?_)
       refine .call (hc:=Tryz.call22) (sp:=go) (h:=?_)
       rintro _ _ ⟨rfl,rfl⟩
       refine .assign (.z (.ret (?_)))
       exact .ret1 (h1:=.tmp (t:=2) rfl) ⟨_,⟨rfl,rfl⟩,Am.auto⟩
    ·have hm1:1<=min i 200:=by omega
     have hkv:=rr (min i 200) (by omega)
     have hkg:=ly (min i 200) 0 (by omega) (by omega)
     rw [if_pos (by omega)] at hkg
     have hxgr:=hx.gr
     rw [fw] at hxgr
     have hadd:=hx.add (z:=(keyM 0,999,0)) ⟨(uj (i:=0) (by decide)).1,(uj (i:=0) (by decide)).2.1,(uj (i:=0) (by decide)).2.2.1,(uj (i:=0) (by decide)).2.2.2.1,by show 999<=_;decide,⟨by show (0:Int)<=0;decide,by show (0:Int)<=_;decide⟩⟩ (by rw [fw];omega)
     rw [fw] at hadd
     refine .exit (.thenExit (.thenExit (.blockExit (?_))))
     refine .next (.seq (.sr (.move ?_)))
     refine .gtr ?_
     refine .move ?_
     refine .cast (d:=60) (u:=.bool true) rfl (cB9 (by first|exact decide_eq_true (by omega)|exact decide_eq_false (by omega)|simp;done|simp;omega|omega)) ?_
     refine .gT (.move (.gT ?_))
     refine .build ?_ (K0 _ _)
     refine .gT ?_
     refine .call (hc:=Tryz.call24) (sp:=ow (gp:=gp) (f:=f) (kv:=ev (jn (min i 200))) (n:=min i 200) (o:=999) (gn:=[103,48]) (t:=3) (p:=0) (now:=0) hxgr (by omega) (by decide) (by decide) (by decide) (by decide) (by decide) (by decide) (.inl (by rw [show (([103,48],3,0):KG)=keyM 0 from rfl,hkg];rfl))) (h:=?_)
     rintro _ _ ⟨rfl,rfl⟩
     refine .gT ?_
     refine .nei ?_
     refine .pickT (.z ?_)
     refine .condF rfl rfl ?_
     refine .skip (.next (.sr (.move ?_)))
     obtain ⟨hist,hhd⟩:∃ hist:List KH,hist=jn (min i 200)++[(keyM 0,999,0)]:=⟨_,rfl⟩
     have hks:=jm (jn (min i 200)) (keyM 0,999,0)
     rw [<- hhd] at hadd hks
     have hlen:(ev hist).length=min i 200:=by
      rw [hks,mw,hkg]
      exact hkv
     have hget:∀ j,1<=j->j < min i 200->kget (ev hist) (keyM j)=some ((j:Nat):Int):=fun j h1 h2=>by
      rw [hks,cj,if_neg (fun h=>by have:=El (by omega) (by omega) h;omega),ly _ j (by omega) (by omega),if_pos h2]
     have hl5:hist.length<=500:=by rw [hhd,List.length_append,fw];show min i 200+1<=500;omega
     obtain ⟨x2,hx2⟩:∃ x2,x2=x.add 2048 (grB (min i 200) (keyM 0) 999 0):=⟨_,rfl⟩
     rw [<- hx2] at hadd
     refine .to (A:=GR gp f (x.add 2048 (grB (min i 200) ([103,48],3,0) 999 0)) (kput (ev (jn (min i 200))) ([103,48],3,0) ((999:Nat):Int))) (A':=GR gp f x2 (ev hist)) (fun h hh=>by rw [hx2,hks];exact hh) ?_
     have hx:=hadd
     refine .openR (GR.opens gp f x2 (ev hist)) fun y hy=>?_
     obtain ⟨pp,m,es,cl⟩:=y
     simp only [List.cons_append,List.nil_append] at hy ⊢
     refine .call (hc:=Tryz.call26) (sp:=K1 (f:=f) hx hl5) (h:=?_)
     rintro _ _ ⟨gq,rfl,rfl⟩
     refine .move ?_
     refine .extract (.extract ?_)
     refine .assign (.assign (.z (.seq (.sr (.move ?_)))))
     refine .nei ?_
     refine .move (.gT (.move (.gT ?_)))
     refine .eqNil ?_ Ca
     refine .pickF (.move (.gT (.move (.gT ?_))))
     refine .call (hc:=Tryz.call27) (sp:=Kz (gp:=gq) (f:=f) (kv:=ev hist)) (h:=?_)
     rintro _ _ ⟨rfl,rfl⟩
     rw [hlen]
     refine .gT (.move (.gT ?_))
     refine .minI ?_
     refine .gT ?_
     refine .nei ?_
     refine .pickF (.z ?_)
     refine .condF rfl (cB9 (by first | (simp;done) | (simp;omega) | (split<;>simp<;>omega))) ?_
     refine .skip (.next (.seq (.sr (.assign (.z (.block ?_))))))
     refine .loopA (σ:=Nat) (fun j=>[(0,.int .i64 ((i:Nat):Int)),(9,.pointer (some ⟨gq,0,none⟩)),(11,.int .i64 ((j:Nat):Int))]) (fun j=>[GR gq f x2 (ev hist)]++F) (fun j=>1<=j/\j<=1+min i 200) (fun j=>300 - j) 1 ⟨Nat.le_refl _,by omega⟩ ?_
     rintro j hj
     obtain ⟨hj1,hj2⟩:=hj
     by_cases hjm:j < min i 200
     ·refine .seq (.sr (.move (.move ?_)))
      refine .lss ?_
      refine .move ?_
      refine .cast (d:=87) (u:=.bool true) rfl (cB9 (decide_eq_true (by omega))) ?_
      refine .gT (.move (.gT ?_))
      refine .lss ?_
      refine .pickT (.z ?_)
      refine .condT rfl (cB9 (decide_eq_true (by omega))) ?_
      refine .skip (.next (.seq (.block (.sr (.move (.move ?_))))))
      refine .quo ?_
      refine .cast (d:=96) (u:=.int .i64 ((j / 8:Nat):Int)) rfl (cI9 (by omega)) ?_
      refine .call (hc:=Tryz.call25) (sp:=mb (n:=j / 8) (by omega)) (h:=?_)
      rintro _ _ ⟨rfl,rfl⟩
      refine .catS [103] (decB (j / 8)) ?_ (by have:=(p9 (j / 8) (by omega)).2;simp only [List.length_cons] at this;show 1+_<=_;omega)
      refine .move ?_
      refine .rem ?_
      refine .cast (d:=100) (u:=.int .i64 ((j % 8:Nat):Int)) rfl (cI9 (by omega)) ?_
      refine .build ?_ (yg _ _ _)
      refine .call (hc:=Tryz.call28) (sp:=yd (gp:=gq) (f:=f) (gn:=103 :: decB (j / 8)) (t:=3) (p:=j % 8) (hget j hj1 (by omega))) (h:=?_)
      rintro _ _ ⟨rfl,rfl⟩
      refine .move ?_
      refine .extract (.extract (.assign (.assign (.x (.move ?_)))))
      refine .nei ?_
      refine .move (.gT (.move (.gT (.move (.gT ?_)))))
      refine .nei ?_
      refine .pickF (.z ?_)
      refine .condF rfl (cB9 (by simp)) ?_
      refine .skip (.blockNormal (.next (.region (.move ?_))))
      refine .add ?_
      refine .assign (.nil ?_)
      exact .back (j+1) ⟨by omega,by omega⟩ (by omega)
     ·by_cases hjn:j < i
      ·refine .seq (.sr (.move (.move ?_)))
       refine .lss ?_
       refine .move ?_
       refine .cast (d:=87) (u:=.bool true) rfl (cB9 (decide_eq_true (by omega))) ?_
       refine .gT (.move (.gT ?_))
       refine .lss ?_
       refine .pickT (.z ?_)
       refine .condF rfl (cB9 (decide_eq_false (by omega))) ?_
       refine .exit (.thenExit (.thenExit (.blockExit (?_))))
       refine .next (.sr ?_)
       refine .call (hc:=Tryz.call22) (sp:=go) (h:=?_)
       rintro _ _ ⟨rfl,rfl⟩
       refine .assign (.z (.ret (?_)))
       exact .ret1 (h1:=.tmp (t:=2) rfl) ⟨_,⟨rfl,rfl⟩,Am.auto⟩
      ·refine .seq (.sr (.move (.move ?_)))
       refine .lss ?_
       refine .move ?_
       refine .cast (d:=87) (u:=.bool false) rfl (cB9 (decide_eq_false (by omega))) ?_
       refine .gF (.gF (.pickF (.z ?_)))
       refine .condF rfl rfl ?_
       refine .exit (.thenExit (.thenExit (.blockExit (?_))))
       refine .next (.sr ?_)
       refine .call (hc:=Tryz.call22) (sp:=go) (h:=?_)
       rintro _ _ ⟨rfl,rfl⟩
       refine .assign (.z (.ret (?_)))
       exact .ret1 (h1:=.tmp (t:=2) rfl) ⟨_,⟨rfl,rfl⟩,Am.auto⟩
end Go.Proofs.YtmihjfcbofejoaaGreatDoor
end
