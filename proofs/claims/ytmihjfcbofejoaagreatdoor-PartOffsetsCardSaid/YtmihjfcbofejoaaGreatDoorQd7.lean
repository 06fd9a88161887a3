/- A part of the proof of lj: texts of this work put together. -/
import Derived.Test.YtmihjfcbofejoaaGreatDoorQd6
import Derived.KernelRfl
set_option linter.unusedVariables false
set_option linter.unusedSimpArgs false
set_option linter.unusedSectionVars false
section
namespace Go.Proofs.YtmihjfcbofejoaaGreatDoor
open Go
def Ctg :Nat->Nat->List Bt->Prop
 | a,e,[]=>a=e
 | a,e,b :: l=>b.base=((a:Nat):Int)/\∃ k:Nat,1<=k/\b.span=((k:Nat):Int)/\Ctg (a+k) e l
theorem Ctg.snoc {e k:Nat} {b:Bt} (hb:b.base=((e:Nat):Int)) (hs:b.span=((k:Nat):Int)) (hk:1<=k):∀ {l:List Bt} {a:Nat},Ctg a e l->Ctg a (e+k) (l++[b])
 | [],a,h=>by
  have h:a=e:=h
  subst h
  exact ⟨hb,k,hk,hs,rfl⟩
 | c :: l,a,⟨h1,j,h2,h3,h4⟩=>⟨h1,j,h2,h3,Ctg.snoc hb hs hk h4⟩
theorem Ctg.le :∀ {l:List Bt} {a e:Nat},Ctg a e l->a<=e
 | [],a,e,h=>Nat.le_of_eq h
 | c :: l,a,e,⟨_,j,_,_,h4⟩=>by have:=Ctg.le h4;omega
theorem Ctg.hit {o:Nat}:∀ {l:List Bt} {a e:Nat},Ctg a e l->a<=o->o < e->∃ b t,l4 ((o:Nat):Int) l=b :: t/\b.base+b.span<=((e:Nat):Int)/\b.base<=((o:Nat):Int)/\((o:Nat):Int) < b.base+b.span
 | [],a,e,h,h1,h2=>by
  have h:a=e:=h
  omega
 | c :: l,a,e,⟨h3,j,h4,h5,h6⟩,h1,h2=>by
  by_cases hx:((o:Nat):Int) < c.base+c.span
  ·refine ⟨c,l4 ((o:Nat):Int) l,?_,by have:=h6.le;rw [h3,h5];omega,by rw [h3];omega,hx⟩
   unfold l4
   exact List.filter_cons_of_pos (by simpa using hx)
  ·obtain ⟨b,t,h7,h8,h9⟩:=Ctg.hit h6 (by rw [h3,h5] at hx;omega) h2
   refine ⟨b,t,?_,h8,h9⟩
   rw [<- h7]
   unfold l4
   rw [List.filter_cons_of_neg (by simpa using hx)]
theorem Ctg.nonneg {b:Bt}:∀ {l:List Bt} {a e:Nat},Ctg a e l->b∈l->0<=b.base
 | [],_,_,_,h=>absurd h List.not_mem_nil
 | c :: l,a,e,⟨h3,j,_,_,h6⟩,h=>by
  rcases List.mem_cons.1 h with rfl | h
  ·rw [h3];omega
  ·exact Ctg.nonneg h6 h
theorem Ctg.none {o:Nat}:∀ {l:List Bt} {a e:Nat},Ctg a e l->e<=o->l4 ((o:Nat):Int) l=[]
 | [],_,_,_,_=>rfl
 | c :: l,a,e,⟨h3,j,h4,h5,h6⟩,h1=>by
  have h7:=Ctg.none h6 h1
  have h8:=h6.le
  unfold l4 at h7 ⊢
  rw [List.filter_cons_of_neg (by rw [h3,h5];simp only [decide_eq_true_eq];omega),h7]
theorem Ml {b:Bt} {t:List Bt}:gotB 1 0 false (b :: t)=[b]:=by
 have h1:=Mj b
 unfold gotB
 rw [if_neg (fun h=>by cases h.1)]
 cases t with
 | nil=>rfl
 | cons c t =>
  unfold gotB
  rw [if_pos ⟨rfl,by omega⟩]
def ofN (x:Int):Nat:=(x % 4).toNat+1
theorem S4 (x:Int):1<=ofN x/\ofN x<=4:=by unfold ofN;omega
def ofR (i:Nat):Rc:=recS [] (cp 40 65) ((i:Nat):Int)
theorem Ni (i j:Nat) (hj:j < 100):(encB { ofR i with off:=((j:Nat):Int) } (ofR i).time).length=44:=by
 have h:=C6 (key:=[]) (val:=cp 40 65) (t:=((i:Nat):Int)) j hj
 rw [if_pos rfl,iq,Iz (by decide)] at h
 exact h
def ofB (next i n:Nat):Bt:=repB ((next:Nat):Int) n (ofR i)
theorem P3 {next i n:Nat} (hn:1<=n/\n<=4):(batB (ofB next i n)).length=48+n * 44:=xy ⟨hn.1,by omega⟩ (Ni i)
theorem S5 {next i n:Nat} (hn:1<=n/\n<=4) (hx:next<=1000) (hi:i<=1000):batE (ofB next i n)=0:=Iy ⟨hn.1,by omega⟩ ⟨by omega,by omega⟩ (I0 ⟨by omega,by omega⟩ (by decide) (by rw [iq];decide)) (Ni i) (by omega)
theorem Da {next i n:Nat} (hn:1<=n/\n<=4):(ofB next i n).span=((n:Nat):Int):=zn hn.1
structure OfI (i next:Nat) (all:List Bt) (x:PS):Prop where
 psi:PSI x next all 224
 ctg:Ctg 0 next all
 len:all.length=i
 le:next<=4 * i
theorem OfI.zero :OfI 0 0 [] ⟨[],0,[]⟩:=⟨PSI.zero 224,rfl,rfl,Nat.le_refl _⟩
theorem OfI.add {i next n:Nat} {all:List Bt} {x:PS} {seg:Int} (h:OfI i next all x) (hn:1<=n/\n<=4):OfI (i+1) (next+n) (all++[ofB next i n]) (x.add seg (ofB next i n)) :=
 ⟨h.psi.add (k:=n) rfl (Da hn) hn.1 (by rw [P3 hn];omega),h.ctg.snoc rfl (Da hn) hn.1,by rw [List.length_append,List.length_singleton,h.len],by have:=h.le;omega⟩
theorem OfI.got {i next o:Nat} {all:List Bt} {x:PS} (h:OfI i next all x) (ho:o < next):∃ b,gotB 1 0 false (p2 ((o:Nat):Int) x.ss)=[b]/\b.base<=((o:Nat):Int)/\((o:Nat):Int) < b.base+b.span/\b.base+b.span<=((next:Nat):Int)/\0<=b.base:=by
 rw [o5,h.psi.all]
 obtain ⟨b,t,h1,h4,h2,h3⟩:=h.ctg.hit (Nat.zero_le o) ho
 have h0:=h.ctg.nonneg (b:=b) (List.mem_filter.1 (show b∈l4 ((o:Nat):Int) all by rw [h1];exact List.mem_cons_self ..)).1
 rw [h1,Ml]
 exact ⟨b,rfl,h2,h3,h4,h0⟩
theorem OfI.none {i next:Nat} {all:List Bt} {x:PS} (h:OfI i next all x):gotB 1 0 false (p2 ((next:Nat):Int) x.ss)=[]:=by
 rw [o5,h.psi.all,h.ctg.none (Nat.le_refl _)]
 rfl
theorem lj {R:HP} {A0:Option Addr} {m c0:Nat} {xs:List Int} {seg:Int} (hR0:xs=[] ∨ Reads R A0 (ints xs)) (hm:xs.length=m) (hxs:∀ x∈xs,-9223372036854775808<=x/\x<=9223372036854775807) (hbig:m<=9223372036854775807) (hs64:-9223372036854775808<=seg/\seg<=9223372036854775807):Spec Tryz.prog 4 #[.slice A0 m c0,.int .i64 seg] [R] fun F v M=>v=.bool true/\M=R :: F:=by
 refine Spec.intro Tryz.func4 rfl rfl fun B F=>?_
 simp only [Tryz.ntmps4,List.cons_append,List.nil_append,env0,Nat.reduceAdd]
 refine .sr (.assign (.z (.seq (.sr (.move ?_)))))
 refine .lenS ?_ sl26
 refine .gtr ?_
 refine .move ?_
 refine .split (t:=25) rfl (fun g0=>?_) (fun g0=>?_)
 ·refine .gF (.gF (.pickT (.move (.gF (.gF ?_)))))
  refine .pickT (.z ?_)
  refine .condT rfl rfl ?_
  refine .sr ?_
  refine .call (hc:=Tryz.call12) (sp:=qz) (h:=?_)
  rintro _ _ ⟨rfl,rfl⟩
  refine .assign (.z ?_)
  refine .ret (.thenRet (?_))
  exact .ret1 (h1:=.tmp (t:=4) rfl) ⟨_,⟨rfl,rfl⟩,Am.auto⟩
 ·refine .gT (.move (.gT ?_))
  refine .lss ?_
  refine .pickF (.move ?_)
  refine .split (t:=29) rfl (fun g1=>?_) (fun g1=>?_)
  ·refine .gF (.gF (.pickT (.z ?_)))
   refine .condT rfl rfl ?_
   refine .sr ?_
   refine .call (hc:=Tryz.call12) (sp:=qz) (h:=?_)
   rintro _ _ ⟨rfl,rfl⟩
   refine .assign (.z ?_)
   refine .ret (.thenRet (?_))
   exact .ret1 (h1:=.tmp (t:=4) rfl) ⟨_,⟨rfl,rfl⟩,Am.auto⟩
  ·refine .gT (.move (.gT ?_))
   refine .gtr ?_
   refine .pickF (.z ?_)
   refine .cond rfl (fun g2=>?_) (fun g2=>?_)
   ·refine .sr ?_
    refine .call (hc:=Tryz.call12) (sp:=qz) (h:=?_)
    rintro _ _ ⟨rfl,rfl⟩
    refine .assign (.z ?_)
    refine .ret (.thenRet (?_))
    exact .ret1 (h1:=.tmp (t:=4) rfl) ⟨_,⟨rfl,rfl⟩,Am.auto⟩
   ·have h0:¬ ((m:Nat):Int) > 30:=by have h:¬ ((m:Nat):Int) > 30:=of_decide_eq_false g0;omega
    have h1:¬ seg < 512:=by have h:¬ seg < 512:=of_decide_eq_false g1;omega
    have h2:¬ seg > 8192:=by have h:¬ seg > 8192:=of_decide_eq_false g2;omega
    obtain ⟨S,rfl⟩:∃ k:Nat,seg=((k:Nat):Int):=⟨seg.toNat,by omega⟩
    obtain ⟨st,hstd⟩:∃ st:Sts,st=⟨((S:Nat):Int),-1,-1,false,0⟩:=⟨_,rfl⟩
    have hst:er st=true:=by
     rw [hstd]
     unfold er
     simp only [Bool.and_eq_true,decide_eq_true_eq]
     omega
    have hsg:st.seg=((S:Nat):Int):=by rw [hstd]
    refine .skip (.next (.sr ?_))
    refine .call (hc:=Tryz.call13) (sp:=C7) (h:=?_)
    rintro _ _ ⟨rfl,rfl⟩
    refine .alloc z23 fun b5=>?_
    refine .stV ?_ uk
    refine .x (.move ?_)
    refine .fa ?_ ve
    refine .st ?_ sc3
    refine .x ?_
    refine .ldA ?_ uk
    refine .cast (d:=38) (u:=.agg st.v.toArray) rfl (by rw [hstd];rfl) ?_
    refine .call (hc:=Tryz.call14) (sp:=C8 (st:=st) hst) (h:=?_)
    rintro _ _ ⟨d,f,pp,rfl,rfl⟩
    refine .move ?_
    refine .extract (.extract (.extract (.extract ?_)))
    refine .assign (.assign (.assign (.assign (.z (.seq (.sr (.move ?_)))))))
    refine .not ?_
    refine .z ?_
    refine .condF rfl rfl ?_
    refine .skip (.next (.sr (.assign (.z (.seq (.sr (.assign (.z (.block ?_)))))))))
    refine .to (A:=PT pp f [112] st [] [(0,[])]) (A':=PT pp f [112] st [] (PS.ss ⟨[],0,[]⟩)) (fun h hh=>hh) ?_
    refine .to (A:=DRF f (pE 1500 250) [112] 1 [(0,[])]) (A':=DRF f (pE 1500 250) [112] (PS.ss ⟨[],0,[]⟩).length (PS.ss ⟨[],0,[]⟩)) (fun h hh=>hh) ?_
    refine .loopA (σ:=Nat×Nat×List Bt×PS) (fun y=>[(0,.slice A0 m c0),(8,.pointer (some ⟨pp,0,none⟩)),(10,.int .i64 ((y.2.1:Nat):Int)),(11,.int .i64 ((y.1:Nat):Int))]) (fun y=>[PT pp f [112] st [] y.2.2.2.ss,DRF f (pE 1500 250) [112] y.2.2.2.ss.length y.2.2.2.ss,R]++F) (fun y=>y.1<=m/\OfI y.1 y.2.1 y.2.2.1 y.2.2.2) (fun y=>m - y.1) (0,0,[],⟨[],0,[]⟩) ⟨Nat.zero_le _,OfI.zero⟩ ?_
    rintro y hy
    obtain ⟨i,next,all,x⟩:=y
    obtain ⟨him,hx⟩:=hy
    simp only at him hx ⊢
    refine .seq (.sr (.move (.move ?_)))
    refine .lenS ?_ sl26
    refine .lss ?_
    refine .z ?_
    refine .cond rfl (fun hd=>?_) (fun hd=>?_)
    ·have hlt:i < m:=by have h:(i:Int) < (m:Int):=of_decide_eq_true hd;omega
     have hil:((i:Nat):Int).toNat < xs.length:=by omega
     have hR:=hR0.resolve_left (by intro h;subst h;simp at hil)
     rcases A0 with _ | ⟨ab,ao,asp⟩
     ·exact absurd hR (fun h=>by have h2:ints xs=[]:=h;simp [ints] at h2;subst h2;simp at hil)
     have hsp:asp=none:=hR.1
     subst hsp
     have hxr:=hxs _ (List.getElem_mem hil)
     obtain ⟨z,hz⟩:∃ z,xs[((i:Nat):Int).toNat]=z:=⟨_,rfl⟩
     rw [hz] at hxr
     have hgx:(ints xs)[((i:Nat):Int).toNat]?=some (.int .i64 z):=by unfold ints;rw [List.getElem?_map,List.getElem?_eq_getElem hil,hz];rfl
     have hn4:=S4 z
     obtain ⟨nn,hnn⟩:∃ nn,nn=ofN z:=⟨_,rfl⟩
     rw [<- hnn] at hn4
     have hcnt:=hx.psi.cnt
     have hbyt:=hx.psi.byt
     have hlen:=hx.len
     have hle:=hx.le
     refine .skip (.next (.seq (.block (.sr (.move (.move ?_))))))
     refine .idx1 ?_ so26
     refine .ldR ?_ sc3 hR hgx
     refine .call (hc:=Tryz.call15) (sp:=P2 (k:=z) (n:=4) (by decide) (by decide) hxr) (h:=?_)
     rintro _ _ ⟨rfl,rfl⟩
     refine .add ?_
     refine .cast (d:=57) (u:=.int .i64 ((nn:Nat):Int)) rfl (cI9 (by rw [hnn];unfold ofN;omega)) ?_
     refine .assign (.x (.move (.move (.move ?_))))
     refine .call (hc:=Tryz.call17) (sp:=I4 (n:=nn) (size:=40) (key:=[]) (t:=((i:Nat):Int)) (by omega) (by decide)) (h:=?_)
     rintro _ _ ⟨A1,c1,rfl,rfl⟩
     have hrl:(List.replicate nn (recS [] (cp 40 65) ((i:Nat):Int))).length=nn:=List.length_replicate
     refine .fact (ag (el:=95) (size:=6) (k:=nn) (v:=.slice (some A1) (List.replicate nn (recS [] (cp 40 65) ((i:Nat):Int))).length c1) (xs:=(List.replicate nn (recS [] (cp 40 65) ((i:Nat):Int))).flatMap Rc.v)) fun ⟨A5,c5,hv5,hR5,_,_,_⟩=>?_
     injection hv5 with hA5 _ hc5
     subst hA5
     subst hc5
     refine .call (hc:=Tryz.call16) (sp:=Mk (pp:=pp) (f:=f) (dn:=[112]) (st:=st) (p:=(pE 1500 250)) (x:=x) (all:=all) (next:=next) (m:=224) (prod:=0) (seq:=0) (l:=(List.replicate nn (recS [] (cp 40 65) ((i:Nat):Int)))) Bi hx.psi (by omega) (by show x.pre.length+5<=250;omega) (by omega) (by omega) (by omega) (by decide) hR5 (by omega) (by omega) (S5 (next:=next) (i:=i) hn4 (by omega) (by omega))) (h:=?_)
     rintro _ _ ⟨rfl,rfl⟩
     rw [show aq ((next:Nat):Int) 0 0 (List.replicate nn (recS [] (cp 40 65) ((i:Nat):Int)))=ofB next i nn from rfl]
     refine .move ?_
     refine .extract (.extract ?_)
     refine .assign (.assign (.z (.seq (.sr (.move ?_)))))
     refine .nei ?_
     refine .move (.gT (.move (.gT (.move (.gT ?_)))))
     refine .nei ?_
     refine .pickF (.z ?_)
     refine .condF rfl (cB9 (by first | (exact decide_eq_true (by omega)) | (exact decide_eq_false (by omega)) | (simp;done) | (simp;omega) | omega)) ?_
     refine .skip (.next (.region (.move (.move ?_))))
     refine .add ?_
     refine .assign (.nil (.blockNormal (.next (.region (.move ?_)))))
     refine .add ?_
     refine .assign (.nil ?_)
     refine .cast (d:=10) (u:=.int .i64 ((next+nn:Nat):Int)) rfl (cI9 (by omega)) ?_
     exact .back (i+1,next+nn,all++[ofB next i nn],x.add st.seg (ofB next i nn)) ⟨hlt,hx.add hn4⟩ (show m - (i+1) < m - i by omega)
    ·have hge:i=m:=by have h:¬ (i:Int) < (m:Int):=of_decide_eq_false hd;omega
     subst hge
     obtain ⟨bs0,post,hfst⟩:=hx.psi.fst
     have hnx:=hx.psi.nx
     have hcnt:=hx.psi.cnt
     have hlen:=hx.len
     have hle:=hx.le
     have hall:(x.ss.flatMap fun y=>y.2).length<=90000:=by rw [hx.psi.all];omega
     refine .exit (.thenExit (.thenExit (.blockExit (?_))))
     refine .next (.seq (.sr (.move ?_)))
     refine .call (hc:=Tryz.call18) (sp:=oy (ss:=x.ss) (pre:=x.pre) (y:=(x.base,x.bs)) rfl (by show x.bs.length<=_;omega)) (h:=?_)
     rintro _ _ ⟨rfl,rfl⟩
     rw [show i3 (((x.base,x.bs):SegA).1:Int) ((x.base,x.bs):SegA).2=((next:Nat):Int) from hnx]
     refine .move ?_
     refine .nei ?_
     refine .move ?_
     refine .cast (d:=80) (u:=.bool false) rfl (cB9 (by first | (exact decide_eq_true (by omega)) | (exact decide_eq_false (by omega)) | (simp;done) | (simp;omega) | omega)) ?_
     refine .gT (.move (.gT ?_))
     refine .call (hc:=Tryz.call19) (sp:=oz (ss:=x.ss) (post:=post) (y:=(0,bs0)) hfst) (h:=?_)
     rintro _ _ ⟨rfl,rfl⟩
     refine .gT ?_
     refine .nei ?_
     refine .pickF (.z ?_)
     refine .condF rfl (cB9 (by first | (exact decide_eq_true (by omega)) | (exact decide_eq_false (by omega)) | (simp;done) | (simp;omega) | omega)) ?_
     refine .skip (.next (.seq (.sr (.assign (.z (.block ?_))))))
     refine .loopA (σ:=Nat) (fun o=>[(8,.pointer (some ⟨pp,0,none⟩)),(10,.int .i64 ((next:Nat):Int)),(15,.int .i64 ((o:Nat):Int))]) (fun o=>[PT pp f [112] st [] x.ss,R]++F) (fun o=>o<=next) (fun o=>next - o) 0 (Nat.zero_le _) ?_
     rintro o ho
     refine .seq (.sr (.move (.move ?_)))
     refine .lss ?_
     refine .z ?_
     refine .cond rfl (fun hd=>?_) (fun hd=>?_)
     ·have hon:o < next:=by have h:((o:Nat):Int) < ((next:Nat):Int):=of_decide_eq_true hd;omega
      obtain ⟨b,hb,hb1,hb2,hb3,hb4⟩:=hx.got hon
      refine .skip (.next (.seq (.block (.sr (.move (.move ?_))))))
      refine .call (hc:=Tryz.call20) (sp:=C9 (off:=((o:Nat):Int)) (mx:=1) (y:=(0,bs0)) (post:=post) (pre:=x.pre) (z:=(x.base,x.bs)) hfst rfl hall (by decide) ⟨by show ((0:Nat):Int)<=_;omega,by show _<=i3 ((x.base:Nat):Int) x.bs;rw [hnx];omega⟩) (h:=?_)
      rintro _ _ ⟨u,rfl,rfl⟩
      refine .openR (BL.opens _ _) fun y hy=>?_
      obtain ⟨l,os2⟩:=y
      obtain ⟨hl1,_⟩:=hy
      simp only [List.cons_append,List.nil_append] at hl1 ⊢
      refine .fact (ag (el:=44) (size:=5) (k:=l.length) (v:=u) (xs:=l.flatMap BRow.v)) fun ⟨A,c,hv,hR,_,_,_⟩=>?_
      subst hv
      rw [hb] at hl1
      obtain ⟨r,rfl,rfl⟩:=Pt hl1
      obtain ⟨ab,ao,rfl⟩:=vg hR (Nat.le_refl 1)
      refine .move ?_
      refine .extract (.extract (.assign (.assign (.z (.seq ?_)))))
      refine .dr ([rowR 44 5 (.slice (some ⟨ab,ao,none⟩) ([r]:List BRow).length c) ([r]:List BRow).length (([r]:List BRow).flatMap BRow.v)]) [] 28 mixed .autoJ ?_
      refine .tk 0 rfl .move ?_
      refine .tk 1 rfl .nei ?_
      refine .tk 2 rfl .move ?_
      refine .tn 3 rfl .move ?_
      refine .tn 4 rfl (.lenS sl40) ?_
      refine .tn 5 rfl .nei ?_
      refine .tk 6 rfl .pickF ?_
      refine .tk 7 rfl .move ?_
      refine .tn 8 rfl .move ?_
      refine .tn 9 rfl (Qt.idx (hp:=⟨Int.le_refl 0,Int.zero_lt_one⟩) so40) ?_
      refine .tn 10 rfl (.fa qa) ?_
      refine .tn 11 rfl (Qt.ldR (i:=0) (v:=.int .i64 r.b.base) sc3 hR rfl) ?_
      refine .tn 12 rfl .move ?_
      refine .tn 13 rfl ((Qt.gtr).eq (v':=.bool false) (cB9 (decide_eq_false (by omega)))) ?_
      refine .tk 14 rfl .pickF ?_
      refine .tk 15 rfl .move ?_
      refine .tn 16 rfl .move ?_
      refine .tn 17 rfl (Qt.idx (hp:=⟨Int.le_refl 0,Int.zero_lt_one⟩) so40) ?_
      refine .tn 18 rfl (.fa qa) ?_
      refine .tn 19 rfl (Qt.ldR (i:=0) (v:=.int .i64 r.b.base) sc3 hR rfl) ?_
      refine .tn 20 rfl .move ?_
      refine .tn 21 rfl (Qt.idx (hp:=⟨Int.le_refl 0,Int.zero_lt_one⟩) so40) ?_
      refine .tn 22 rfl (.fa ow) ?_
      refine .tn 23 rfl (Qt.ldR (i:=1) (v:=.int .i64 r.b.span) sc3 hR rfl) ?_
      refine .tn 24 rfl .add ?_
      refine .tn 25 rfl .move ?_
      refine .tn 26 rfl ((Qt.leq).eq (v':=.bool false) (cB9 (decide_eq_false (by omega)))) ?_
      refine .tk 27 rfl .pickF ?_
      refine .fin ?_
      refine .next ?_
      refine .condF rfl rfl ?_
      refine .skip (.blockNormal (.next (.region (.move ?_))))
      refine .add ?_
      refine .assign (.nil ?_)
      exact .back (o+1) (show o+1<=next from hon) (show next - (o+1) < next - o by omega)
     ·have hoe:o=next:=by have h:¬ ((o:Nat):Int) < ((next:Nat):Int):=of_decide_eq_false hd;have h2:o<=next:=ho;omega
      subst hoe
      refine .exit (.thenExit (.thenExit (.blockExit (?_))))
      refine .next (.sr (.move (.move ?_)))
      refine .call (hc:=Tryz.call20) (sp:=C9 (off:=((o:Nat):Int)) (mx:=1) (y:=(0,bs0)) (post:=post) (pre:=x.pre) (z:=(x.base,x.bs)) hfst rfl hall (by decide) ⟨by show ((0:Nat):Int)<=_;omega,by show _<=i3 ((x.base:Nat):Int) x.bs;rw [hnx];omega⟩) (h:=?_)
      rintro _ _ ⟨u,rfl,rfl⟩
      refine .openR (BL.opens _ _) fun y hy=>?_
      obtain ⟨l,os2⟩:=y
      obtain ⟨hl1,_⟩:=hy
      simp only [List.cons_append,List.nil_append] at hl1 ⊢
      refine .fact (ag (el:=44) (size:=5) (k:=l.length) (v:=u) (xs:=l.flatMap BRow.v)) fun ⟨A,c,hv,hR,_,_,_⟩=>?_
      subst hv
      rw [hx.none] at hl1
      have hl0:l=[]:=List.map_eq_nil_iff.1 hl1
      subst hl0
      refine .move ?_
      refine .extract (.extract ?_)
      refine .assign (.assign (.x (.move (.move ?_))))
      refine .add ?_
      refine .call (hc:=Tryz.call20) (sp:=Ja (off:=((o:Nat):Int)+1) (mx:=1) (y:=(0,bs0)) (post:=post) (pre:=x.pre) (z:=(x.base,x.bs)) hfst rfl hall (by decide) ⟨by show ((0:Nat):Int)<=_;omega,by show i3 ((x.base:Nat):Int) x.bs < _;rw [hnx];omega⟩) (h:=?_)
      rintro _ _ ⟨rfl,rfl⟩
      refine .move ?_
      refine .extract (.extract (.assign (.assign (.x (.move ?_)))))
      refine .eqi ?_
      refine .move (.gT (.move (.gT ?_)))
      refine .lenS ?_ sl40
      refine .gT ?_
      refine .eqi ?_
      refine .pickT (.move (.gT (.move (.gT ?_))))
      refine .eqi ?_
      refine .pickT (.move (.gT ?_))
      refine .call (hc:=Tryz.call12) (sp:=qz) (h:=?_)
      rintro _ _ ⟨rfl,rfl⟩
      refine .pickT (.assign (.z (.ret (?_))))
      exact .ret1 (h1:=.tmp (t:=4) rfl) ⟨_,⟨rfl,rfl⟩,Am.auto⟩
end Go.Proofs.YtmihjfcbofejoaaGreatDoor
end
