/- A part of the proof of iw: texts of this work put together. -/
import Derived.Test.YtmihjfcbofejoaaGreatDoorQc6
import Derived.KernelRfl
set_option linter.unusedVariables false
set_option linter.unusedSimpArgs false
set_option linter.unusedSectionVars false
section
namespace Go.Proofs.YtmihjfcbofejoaaGreatDoor
open Go
def rdR (j:Nat):Rc:=recS [] (df 147 65) ((j:Nat):Int)
def rdB (j:Nat):Bt:=repB ((j:Nat):Int) 1 (rdR j)
def rdL (n:Nat):List Bt:=(List.range n).map rdB
theorem Nu (i j:Nat) (hj:j < 100):(encB { rdR i with off:=((j:Nat):Int) } (rdR i).time).length=152:=by
 have h:=Dh (key:=[]) (val:=df 147 65) (t:=((i:Nat):Int)) j hj
 rw [if_pos rfl,iv,Ns (by decide) (by decide)] at h
 exact h
theorem Bv (j:Nat):(batB (rdB j)).length=200:=x8 ⟨by decide,by decide⟩ (Nu j)
theorem Tf {j:Nat} (h:j<=1000):batE (rdB j)=0:=I9 ⟨by decide,by decide⟩ ⟨by omega,by omega⟩ (Ja ⟨by omega,by omega⟩ (by decide) (by rw [iv];decide)) (Nu j) (by decide)
theorem yc (j:Nat):(rdB j).span=((1:Nat):Int):=zy (by decide)
theorem Mu (n:Nat):rdL (n+1)=rdL n++[rdB n]:=by unfold rdL;rw [List.range_succ,List.map_append];rfl
theorem go (n:Nat):(rdL n).length=n:=by simp [rdL]
theorem Jk {n i:Nat} (h:i < n):(rdL n)[i]?=some (rdB i):=by unfold rdL;rw [List.getElem?_map,List.getElem?_range h];rfl
theorem Dn {n:Nat}:∀ b∈rdL n,(batB b).length=200:=fun b hb=>by
 unfold rdL at hb
 obtain ⟨j,_,rfl⟩:=List.mem_map.1 hb
 exact Bv j
theorem Mv {l:List Bt} {m:Nat} (h:∀ b∈l,(batB b).length=m):(l.flatMap batB).length=l.length * m:=by
 induction l with
 | nil=>simp
 | cons x l ih =>
  rw [List.flatMap_cons,List.length_append,h x (List.mem_cons_self ..),ih fun b hb=>h b (List.mem_cons_of_mem _ hb),List.length_cons,Nat.succ_mul]
  omega
theorem PSI.mem {x:PS} {next m:Nat} {l:List Bt} (h:PSI x next l m) {b:Bt} (hb:b∈x.bs):b∈l:=by
 rw [<- h.all]
 exact List.mem_flatMap.2 ⟨(x.base,x.bs),List.mem_append_right _ (List.mem_singleton.2 rfl),hb⟩
structure RdI (q n:Nat) (x:PS):Prop where
 psi:PSI x n (rdL n) 200
 cnt:x.pre.length * q+x.bs.length=n
 le:x.bs.length<=q
 pos:0 < n->0 < x.bs.length
theorem RdI.zero {q:Nat}:RdI q 0 ⟨[],0,[]⟩:=⟨PSI.zero 200,by simp,Nat.zero_le _,fun h=>absurd h (Nat.lt_irrefl 0)⟩
theorem RdI.add {q n:Nat} {x:PS} {seg:Nat} (h:RdI q n x) (hq:q=seg / 200) (h2:2<=q):RdI q (n+1) (x.add ((seg:Nat):Int) (rdB n)):=by
 have hpsi:=h.psi.add (seg:=((seg:Nat):Int)) (b:=rdB n) (k:=1) rfl (yc n) (Nat.le_refl _) (by rw [Bv];exact Nat.le_refl _)
 rw [<- Mu] at hpsi
 have hbl:(x.bs.flatMap batB).length=x.bs.length * 200:=Mv fun b hb=>Dn b (h.psi.mem hb)
 have h3:=h.cnt
 have h4:=h.le
 refine ⟨hpsi,?_,?_,?_⟩
 all_goals (unfold PS.add;rw [hbl,Bv])
 ·split
  ·show x.pre.length * q+(x.bs++[rdB n]).length=n+1
   rw [List.length_append,List.length_singleton]
   omega
  ·rename_i hc
   have hbq:x.bs.length=q:=by omega
   show x.ss.length * q+1=n+1
   rw [PS.len,Nat.succ_mul]
   omega
 ·split
  ·rename_i hc
   show (x.bs++[rdB n]).length<=q
   rw [List.length_append,List.length_singleton]
   omega
  ·show 1<=q
   omega
 ·split
  ·exact fun _=>by show 0 < (x.bs++[rdB n]).length;simp
  ·exact fun _=>Nat.zero_lt_one
theorem RdI.segs {q n:Nat} {x:PS} (h:RdI q n x) (hq:2<=q) (hn:1<=n):x.ss.length=(n+q - 1) / q:=by
 have h1:=h.cnt
 have h2:=h.le
 have h3:=h.pos hn
 rw [PS.len]
 have h4:n+q - 1=(x.bs.length - 1)+(x.pre.length+1) * q:=by rw [Nat.succ_mul];omega
 rw [h4,Nat.add_mul_div_right _ _ (by omega),Nat.div_eq_of_lt (by omega)]
 omega
theorem Qf {n:Nat}:∀ (k from_:Nat),from_+k=n->o7 ((from_:Nat):Int) (rdL n)=(rdL n).drop from_:=fun k from_ h=>by
 have h1:rdL n=(rdL n).take from_++(rdL n).drop from_:=(List.take_append_drop _ _).symm
 have e1:o7 ((from_:Nat):Int) ((rdL n).take from_)=[]:=by
  unfold o7
  refine List.filter_eq_nil_iff.2 fun b hb=>?_
  obtain ⟨i,hi⟩:=List.getElem?_of_mem hb
  rw [List.getElem?_take] at hi
  split at hi
  ·rename_i hif
   rw [Jk (by omega)] at hi
   injection hi with hi
   rw [<- hi,yc]
   simp only [decide_eq_true_eq]
   show ¬ ((from_:Nat):Int) < ((i:Nat):Int)+((1:Nat):Int)
   omega
  ·cases hi
 have e2:o7 ((from_:Nat):Int) ((rdL n).drop from_)=(rdL n).drop from_:=Dm _ fun b hb=>by
  obtain ⟨i,hi⟩:=List.getElem?_of_mem hb
  rw [List.getElem?_drop] at hi
  have hlt:=(List.getElem?_eq_some_iff.1 hi).1
  rw [go] at hlt
  rw [Jk hlt] at hi
  injection hi with hi
  rw [<- hi,yc]
  show ((from_:Nat):Int) < ((from_+i:Nat):Int)+((1:Nat):Int)
  omega
 conv=>lhs;rw [h1]
 unfold o7 at e1 e2 ⊢
 rw [List.filter_append,e1,e2,List.nil_append]
theorem Jl {n from_ w:Nat} {mx:Int} {x:PS} {q:Nat} (h:RdI q n x) (hf:from_<=n) (h0:from_=n->w=0) (h1:from_ < n->1<=w/\w<=n - from_/\(w=1 ∨ ((w * 200:Nat):Int)<=mx)/\(w=n - from_ ∨ mx < (((w+1) * 200:Nat):Int))):gotB mx 0 false (qo ((from_:Nat):Int) x.ss)=((rdL n).drop from_).take w:=by
 rw [ug,h.psi.all,Qf (n - from_) from_ (by omega)]
 by_cases hlt:from_ < n
 ·obtain ⟨a,b,c,d⟩:=h1 hlt
  have hl:((rdL n).drop from_).length=n - from_:=by rw [List.length_drop,go]
  exact Mc (m:=200) (fun b hb=>Dn b (List.mem_of_mem_drop hb)) a (by rw [hl];exact b) c (by rw [hl];exact d)
 ·have hfn:from_=n:=by omega
  rw [h0 hfn,List.take_zero,List.drop_eq_nil_of_le (by rw [go];omega)]
  rfl
theorem Qg {n from_ w i:Nat} (hi:i < w) (hw:w<=n - from_):(((rdL n).drop from_).take w)[i]?=some (rdB (from_+i)):=by
 rw [List.getElem?_take,if_pos hi,List.getElem?_drop,Jk (by omega)]
theorem iw {n frm mx seg:Int} (hn64:-9223372036854775808<=n/\n<=9223372036854775807) (hb64:-9223372036854775808<=frm/\frm<=9223372036854775807) (ha64:-9223372036854775808<=mx/\mx<=9223372036854775807) (hw64:-9223372036854775808<=seg/\seg<=9223372036854775807):Spec Tryz.prog 5 #[.int .i64 n,.int .i64 frm,.int .i64 mx,.int .i64 seg] [] fun F v M=>v=.bool true/\M=F:=by
 refine Spec.intro Tryz.func5 rfl rfl fun B F=>?_
 simp only [Tryz.ntmps5,List.cons_append,List.nil_append,env0,Nat.reduceAdd]
 refine .sr (.assign (.z (.seq (.sr (.move ?_)))))
 refine .lss ?_
 refine .move ?_
 refine .split (t:=23) rfl (fun g0=>?_) (fun g0=>?_)
 ·refine .gF (.gF (.pickT (.move (.gF (.gF ?_)))))
  refine .pickT (.move (.gF (.gF (.gF (.pickT ?_)))))
  refine .move (.gF (.gF (.pickT (.move (.gF ?_)))))
  refine .gF (.pickT (.move (.gF (.gF (.pickT ?_)))))
  refine .z ?_
  refine .condT rfl rfl ?_
  refine .sr ?_
  refine .call (hc:=Tryz.call12) (sp:=fu) (h:=?_)
  rintro _ _ ⟨rfl,rfl⟩
  refine .assign (.z ?_)
  refine .ret (.thenRet (?_))
  exact .ret1 (h1:=.tmp (t:=8) rfl) ⟨_,⟨rfl,rfl⟩,Am.auto⟩
 ·refine .gT (.move (.gT ?_))
  refine .gtr ?_
  refine .pickF (.move ?_)
  refine .split (t:=27) rfl (fun g1=>?_) (fun g1=>?_)
  ·refine .gF (.gF (.pickT (.move (.gF (.gF ?_)))))
   refine .gF (.pickT (.move (.gF (.gF (.pickT ?_)))))
   refine .move (.gF (.gF (.pickT (.move (.gF ?_)))))
   refine .gF (.pickT (.z ?_))
   refine .condT rfl rfl ?_
   refine .sr ?_
   refine .call (hc:=Tryz.call12) (sp:=fu) (h:=?_)
   rintro _ _ ⟨rfl,rfl⟩
   refine .assign (.z ?_)
   refine .ret (.thenRet (?_))
   exact .ret1 (h1:=.tmp (t:=8) rfl) ⟨_,⟨rfl,rfl⟩,Am.auto⟩
  ·refine .gT (.move (.gT ?_))
   refine .lss ?_
   refine .pickF (.move ?_)
   refine .split (t:=31) rfl (fun g2=>?_) (fun g2=>?_)
   ·refine .gF (.gF (.gF (.pickT (.move (.gF ?_)))))
    refine .gF (.pickT (.move (.gF (.gF (.pickT ?_)))))
    refine .move (.gF (.gF (.pickT (.z ?_))))
    refine .condT rfl rfl ?_
    refine .sr ?_
    refine .call (hc:=Tryz.call12) (sp:=fu) (h:=?_)
    rintro _ _ ⟨rfl,rfl⟩
    refine .assign (.z ?_)
    refine .ret (.thenRet (?_))
    exact .ret1 (h1:=.tmp (t:=8) rfl) ⟨_,⟨rfl,rfl⟩,Am.auto⟩
   ·refine .gT (.move (.gT (.move (.gT ?_))))
    refine .gtr ?_
    refine .pickF (.move ?_)
    refine .split (t:=36) rfl (fun g3=>?_) (fun g3=>?_)
    ·refine .gF (.gF (.pickT (.move (.gF (.gF ?_)))))
     refine .pickT (.move (.gF (.gF (.pickT (.z ?_)))))
     refine .condT rfl rfl ?_
     refine .sr ?_
     refine .call (hc:=Tryz.call12) (sp:=fu) (h:=?_)
     rintro _ _ ⟨rfl,rfl⟩
     refine .assign (.z ?_)
     refine .ret (.thenRet (?_))
     exact .ret1 (h1:=.tmp (t:=8) rfl) ⟨_,⟨rfl,rfl⟩,Am.auto⟩
    ·refine .gT (.move (.gT ?_))
     refine .lss ?_
     refine .pickF (.move ?_)
     refine .split (t:=40) rfl (fun g4=>?_) (fun g4=>?_)
     ·refine .gF (.gF (.pickT (.move (.gF (.gF ?_)))))
      refine .pickT (.z ?_)
      refine .condT rfl rfl ?_
      refine .sr ?_
      refine .call (hc:=Tryz.call12) (sp:=fu) (h:=?_)
      rintro _ _ ⟨rfl,rfl⟩
      refine .assign (.z ?_)
      refine .ret (.thenRet (?_))
      exact .ret1 (h1:=.tmp (t:=8) rfl) ⟨_,⟨rfl,rfl⟩,Am.auto⟩
     ·refine .gT (.move (.gT ?_))
      refine .lss ?_
      refine .pickF (.move ?_)
      refine .split (t:=44) rfl (fun g5=>?_) (fun g5=>?_)
      ·refine .gF (.gF (.pickT (.z ?_)))
       refine .condT rfl rfl ?_
       refine .sr ?_
       refine .call (hc:=Tryz.call12) (sp:=fu) (h:=?_)
       rintro _ _ ⟨rfl,rfl⟩
       refine .assign (.z ?_)
       refine .ret (.thenRet (?_))
       exact .ret1 (h1:=.tmp (t:=8) rfl) ⟨_,⟨rfl,rfl⟩,Am.auto⟩
      ·refine .gT (.move (.gT ?_))
       refine .gtr ?_
       refine .pickF (.z ?_)
       refine .cond rfl (fun g6=>?_) (fun g6=>?_)
       ·refine .sr ?_
        refine .call (hc:=Tryz.call12) (sp:=fu) (h:=?_)
        rintro _ _ ⟨rfl,rfl⟩
        refine .assign (.z ?_)
        refine .ret (.thenRet (?_))
        exact .ret1 (h1:=.tmp (t:=8) rfl) ⟨_,⟨rfl,rfl⟩,Am.auto⟩
       ·have h0:¬ n < 1:=by have h:¬ n < 1:=of_decide_eq_false g0;omega
        have h1:¬ n > 20:=by have h:¬ n > 20:=of_decide_eq_false g1;omega
        have h2:¬ frm < 0:=by have h:¬ frm < 0:=of_decide_eq_false g2;omega
        have h3:¬ frm > n:=by have h:¬ frm > n:=of_decide_eq_false g3;omega
        have h4:¬ mx < 1:=by have h:¬ mx < 1:=of_decide_eq_false g4;omega
        have h5:¬ seg < 512:=by have h:¬ seg < 512:=of_decide_eq_false g5;omega
        have h6:¬ seg > 3000:=by have h:¬ seg > 3000:=of_decide_eq_false g6;omega
        obtain ⟨n,rfl⟩:∃ m:Nat,n=((m:Nat):Int):=⟨n.toNat,by omega⟩
        obtain ⟨frm,rfl⟩:∃ m:Nat,frm=((m:Nat):Int):=⟨frm.toNat,by omega⟩
        obtain ⟨S,rfl⟩:∃ m:Nat,seg=((m:Nat):Int):=⟨seg.toNat,by omega⟩
        obtain ⟨q,hq⟩:∃ q,q=S / 200:=⟨_,rfl⟩
        have hq2:2<=q:=by omega
        obtain ⟨st,hstd⟩:∃ st:Sts,st=⟨((S:Nat):Int),-1,-1,false,0⟩:=⟨_,rfl⟩
        have hst:ew st=true:=by
         rw [hstd]
         unfold ew
         simp only [Bool.and_eq_true,decide_eq_true_eq]
         omega
        have hsg:st.seg=((S:Nat):Int):=by rw [hstd]
        refine .skip (.next (.sr ?_))
        refine .call (hc:=Tryz.call13) (sp:=Di) (h:=?_)
        rintro _ _ ⟨rfl,hM⟩
        obtain rfl:=hM.symm
        refine .alloc z23 fun b9=>?_
        refine .stV ?_ uq
        refine .x (.move ?_)
        refine .fa ?_ vk
        refine .st ?_ sc3
        refine .x ?_
        refine .ldA ?_ uq
        refine .cast (d:=53) (u:=.agg st.v.toArray) rfl (by rw [hstd];rfl) ?_
        refine .call (hc:=Tryz.call14) (sp:=Dl (st:=st) hst) (h:=?_)
        rintro _ _ ⟨d,f,pp,rfl,rfl⟩
        refine .move ?_
        refine .extract (.extract (.extract (.extract ?_)))
        refine .assign (.assign (.assign (.assign (.z (.seq (.sr (.move ?_)))))))
        refine .not ?_
        refine .z ?_
        refine .condF rfl rfl ?_
        refine .skip (.next (.seq (.sr (.assign (.z (.block ?_))))))
        refine .to (A:=PT pp f [112] st [] [(0,[])]) (A':=PT pp f [112] st [] (PS.ss ⟨[],0,[]⟩)) (fun h hh=>hh) ?_
        refine .to (A:=DRF f (pE 1500 250) [112] 1 [(0,[])]) (A':=DRF f (pE 1500 250) [112] (PS.ss ⟨[],0,[]⟩).length (PS.ss ⟨[],0,[]⟩)) (fun h hh=>hh) ?_
        refine .loopA (σ:=Nat×PS) (fun y=>[(0,.int .i64 ((n:Nat):Int)),(1,.int .i64 ((frm:Nat):Int)),(2,.int .i64 mx),(3,.int .i64 ((S:Nat):Int)),(12,.pointer (some ⟨pp,0,none⟩)),(14,.int .i64 ((y.1:Nat):Int))]) (fun y=>[PT pp f [112] st [] y.2.ss,DRF f (pE 1500 250) [112] y.2.ss.length y.2.ss]++F) (fun y=>y.1<=n/\RdI q y.1 y.2) (fun y=>n - y.1) (0,⟨[],0,[]⟩) ⟨Nat.zero_le _,RdI.zero⟩ ?_
        rintro y hy
        obtain ⟨i,x⟩:=y
        obtain ⟨hi,hx⟩:=hy
        simp only at hi hx ⊢
        refine .seq (.sr (.move (.move ?_)))
        refine .lss ?_
        refine .z ?_
        refine .cond rfl (fun hd=>?_) (fun hd=>?_)
        ·have hin:i < n:=by have h:((i:Nat):Int) < ((n:Nat):Int):=of_decide_eq_true hd;omega
         have hcnt:=hx.psi.cnt
         rw [go] at hcnt
         have hbyt:=hx.psi.byt
         rw [go] at hbyt
         refine .skip (.next (.seq (.block (.sr (.move (.move ?_))))))
         refine .call (hc:=Tryz.call17) (sp:=Je (n:=1) (size:=147) (key:=[]) (t:=((i:Nat):Int)) (by decide) (by decide)) (h:=?_)
         rintro _ _ ⟨A1,c1,rfl,rfl⟩
         refine .fact (ae (el:=95) (size:=6) (k:=1) (v:=.slice (some A1) (List.replicate 1 (recS [] (df 147 65) ((i:Nat):Int))).length c1) (xs:=(List.replicate 1 (recS [] (df 147 65) ((i:Nat):Int))).flatMap Rc.v)) fun ⟨A5,c5,hv5,hR5,_,_,_⟩=>?_
         injection hv5 with hA5 _ hc5
         subst hA5
         subst hc5
         refine .call (hc:=Tryz.call16) (sp:=Mt (pp:=pp) (f:=f) (dn:=[112]) (st:=st) (p:=(pE 1500 250)) (x:=x) (all:=rdL i) (next:=i) (m:=200) (prod:=0) (seq:=0) (l:=[rdR i]) Bs hx.psi (by omega) (by show x.pre.length+5<=250;omega) (by omega) (by rw [go];omega) (by omega) (by decide) hR5 Nat.zero_lt_one (Nat.le_of_ble_eq_true rfl) (Tf (by omega))) (h:=?_)
         rintro _ _ ⟨rfl,rfl⟩
         rw [hsg,show ap ((i:Nat):Int) 0 0 [rdR i]=rdB i from rfl]
         refine .move ?_
         refine .extract (.extract (.assign (.assign (.x (.move ?_)))))
         refine .nei ?_
         refine .z ?_
         refine .condF rfl rfl ?_
         refine .skip (.blockNormal (.next (.region (.move ?_))))
         refine .add ?_
         refine .assign (.nil ?_)
         exact .back (i+1,x.add ((S:Nat):Int) (rdB i)) ⟨hin,hx.add hq hq2⟩ (show n - (i+1) < n - i by omega)
        ·have hge:i=n:=by have h:¬ ((i:Nat):Int) < ((n:Nat):Int):=of_decide_eq_false hd;have h2:i<=n:=hi;omega
         subst hge
         by_cases hlt:frm < i
         ·refine .exit (.thenExit (.thenExit (.blockExit (?_))))
          refine .next (.sr (.assign (.z (.seq (.sr (.move (.move ?_)))))))
          refine .lss ?_
          refine .z ?_
          refine .condT rfl (cB9 (by first | (exact decide_eq_true (by omega)) | (exact decide_eq_false (by omega)) | (simp;done) | (simp;omega) | omega)) ?_
          refine .sr (.assign (.z (.block ?_)))
          refine .loopA (σ:=Nat) (fun w=>[(0,.int .i64 ((i:Nat):Int)),(1,.int .i64 ((frm:Nat):Int)),(2,.int .i64 mx),(3,.int .i64 ((S:Nat):Int)),(12,.pointer (some ⟨pp,0,none⟩)),(17,.int .i64 ((w:Nat):Int))]) (fun w=>[PT pp f [112] st [] x.ss]++F) (fun w=>1<=w/\w<=i - frm/\(w=1 ∨ ((w * 200:Nat):Int)<=mx)) (fun w=>i - w) 1 ⟨by omega,by omega,.inl rfl⟩ ?_
          rintro w hw
          obtain ⟨hw1,hw2,hw3⟩:=hw
          by_cases g1:w < i - frm
          ·by_cases g2:((w:Nat):Int) * 200+200<=mx
           ·refine .seq (.sr (.move (.move (.move ?_))))
            refine .sub ?_
            refine .lss ?_
            refine .move ?_
            refine .cast (d:=83) (u:=.bool true) rfl (cB9 (by first | (exact decide_eq_true (by omega)) | (exact decide_eq_false (by omega)) | (simp;done) | (simp;omega) | omega)) ?_
            refine .gT (.move (.gT ?_))
            refine .add ?_
            refine .gT ?_
            refine .mul ?_
            refine .gT (.move (.gT ?_))
            refine .leq ?_
            refine .pickT (.z ?_)
            refine .condT rfl (cB9 (by first | (exact decide_eq_true (by omega)) | (exact decide_eq_false (by omega)) | (simp;done) | (simp;omega) | omega)) ?_
            refine .skip (.next (.block (.region (.move ?_))))
            refine .add ?_
            refine .assign (.nil (.blockNormal ?_))
            exact .back (w+1) ⟨by omega,by omega,.inr (by omega)⟩ (by omega)
           ·have hres:=Jl (w:=w) (mx:=mx) hx (by omega:frm<=i) (fun h=>by omega) (fun _=>⟨hw1,hw2,hw3,.inr (by omega)⟩)
            refine .seq (.sr (.move (.move (.move ?_))))
            refine .sub ?_
            refine .lss ?_
            refine .move ?_
            refine .cast (d:=83) (u:=.bool true) rfl (cB9 (by first | (exact decide_eq_true (by omega)) | (exact decide_eq_false (by omega)) | (simp;done) | (simp;omega) | omega)) ?_
            refine .gT (.move (.gT ?_))
            refine .add ?_
            refine .gT ?_
            refine .mul ?_
            refine .gT (.move (.gT ?_))
            refine .leq ?_
            refine .pickT (.z ?_)
            refine .condF rfl (cB9 (by first | (exact decide_eq_true (by omega)) | (exact decide_eq_false (by omega)) | (simp;done) | (simp;omega) | omega)) ?_
            refine .exit (.thenExit (.thenExit (.blockExit (?_))))
            refine .next (.sr (.move (.move (.move ?_))))
            obtain ⟨bs0,post,hfst⟩:=hx.psi.fst
            have hnx:=hx.psi.nx
            refine .call (hc:=Tryz.call20) (sp:=ya (off:=((frm:Nat):Int)) (mx:=mx) (y:=(0,bs0)) (post:=post) (pre:=x.pre) (z:=(x.base,x.bs)) hfst rfl (by rw [hx.psi.all,go];omega) (by omega) ⟨by show ((0:Nat):Int)<=_;omega,by show _<=kh ((x.base:Nat):Int) x.bs;rw [hnx];omega⟩) (h:=?_)
            rintro _ _ ⟨u,rfl,rfl⟩
            refine .openR (BL.opens _ _) fun y hy=>?_
            obtain ⟨l,os2⟩:=y
            obtain ⟨hl1,_⟩:=hy
            simp only [List.cons_append,List.nil_append] at hl1 ⊢
            refine .fact (ae (el:=44) (size:=5) (k:=l.length) (v:=u) (xs:=l.flatMap BRow.v)) fun ⟨A,c,hv,hR,_,_,_⟩=>?_
            subst hv
            refine .move ?_
            refine .extract (.extract ?_)
            refine .assign (.assign (.z (.seq (.sr ?_))))
            rw [hres] at hl1
            have hlw:l.length=w:=by
             have h:=congrArg List.length hl1
             rw [List.length_map,List.length_take,List.length_drop,go] at h
             omega
            refine .move ?_
            refine .nei ?_
            refine .move (.gT (.move (.gT ?_)))
            refine .lenS ?_ sl40
            refine .gT (.move (.gT ?_))
            refine .nei ?_
            refine .pickF (.z ?_)
            refine .condF rfl (cB9 (by first | (rw [hlw];rfl) | (rw [hlw];simp;done))) ?_
            refine .skip (.next (.seq (.sr (.assign (.z (.block ?_))))))
            refine .loopA (σ:=Nat) (fun j=>[(0,.int .i64 ((i:Nat):Int)),(1,.int .i64 ((frm:Nat):Int)),(3,.int .i64 ((S:Nat):Int)),(12,.pointer (some ⟨pp,0,none⟩)),(17,.int .i64 ((w:Nat):Int)),(18,.slice A l.length c),(20,.int .i64 ((j:Nat):Int))]) (fun j=>[PT pp f [112] st [] x.ss,rowR 44 5 (.slice A l.length c) l.length (l.flatMap BRow.v)]++F) (fun j=>j<=w) (fun j=>w - j) 0 (Nat.zero_le _) ?_
            rintro j hj
            refine .seq (.sr (.move (.move ?_)))
            refine .lss ?_
            refine .z ?_
            refine .cond rfl (fun hd=>?_) (fun hd=>?_)
            ·have hjw:j < w:=by have h:((j:Nat):Int) < ((w:Nat):Int):=of_decide_eq_true hd;omega
             obtain ⟨ab,ao,rfl⟩:=l4 hR (by omega)
             refine .skip (.next (.seq (.block (.sr (.move (.move ?_))))))
             refine .idx ?_ so40
             refine .fa ?_ oz
             refine .ldR (i:=j * 5+0) (v:=.int .i64 (((frm:Nat):Int)+((j:Nat):Int))) ?_ sc3 hR (by rw [P5 hl1 (Qg hjw hw2)];exact congrArg (fun z=>some (Value.int .i64 z)) (by show (((frm+j:Nat)):Int)=_;omega))
             refine .cast (d:=115) (u:=.pointer (some ⟨ab,ao+(j * 5+0),none⟩)) rfl (congrArg (fun z=>Value.pointer (some ⟨ab,z,none⟩)) (by show ao+((j:Nat):Int).toNat * 5+0=_;rw [Int.toNat_natCast];omega)) ?_
             refine .move (.move ?_)
             refine .add ?_
             refine .nei ?_
             refine .z ?_
             refine .condF rfl (cB9 (by first | (exact decide_eq_true (by omega)) | (exact decide_eq_false (by omega)) | (simp;done) | (simp;omega) | omega)) ?_
             refine .skip (.blockNormal (.next (.region (.move ?_))))
             refine .add ?_
             refine .assign (.nil ?_)
             exact .back (j+1) (show j+1<=w from hjw) (show w - (j+1) < w - j by omega)
            ·have hsl:=hx.segs hq2 (by omega)
             have e1:((S:Nat):Int) / 200=((q:Nat):Int):=by omega
             have e2:((x.ss.length:Nat):Int)=(((i:Nat):Int)+((S:Nat):Int) / 200 - 1) / (((S:Nat):Int) / 200):=by
              rw [hsl,e1,show ((i:Nat):Int)+((q:Nat):Int) - 1=((i+q - 1:Nat):Int) by omega]
              exact Int.natCast_ediv _ _
             refine .exit (.thenExit (.thenExit (.blockExit (?_))))
             refine .next (.seq ?_)
             refine .dr ([]) [] 16 mixed .autoJ ?_
             refine .tk 0 rfl .move ?_
             refine .tk 3 rfl .move ?_
             refine .tk 4 rfl .move ?_
             refine .tk 5 rfl .quo ?_
             refine .tk 6 rfl .add ?_
             refine .tk 7 rfl .sub ?_
             refine .tk 8 rfl .move ?_
             refine .tk 9 rfl .quo ?_
             refine .tk 10 rfl .quo ?_
             refine .on 1 rfl fun hnp=>?_
             refine .call (hc:=Tryz.call21) (sp:=yb (pp:=pp) (f:=f) (dn:=[112]) (st:=st) (dp:=[]) (ss:=x.ss)) (h:=?_)
             rintro _ _ ⟨A7,c7,rfl,rfl⟩
             refine .nil (.wa hnp ?_)
             refine .tk 2 rfl (.lenS sl26) ?_
             refine .tk 11 rfl ((Qt.eqi).eq (v':=.bool true) (cB9 (decide_eq_true e2))) ?_
             refine .tk 12 rfl .move ?_
             refine .on 13 rfl fun hnp=>?_
             refine .gT ?_
             refine .call (hc:=Tryz.call12) (sp:=fu) (h:=?_)
             rintro _ _ ⟨rfl,rfl⟩
             refine .nil (.wa hnp ?_)
             refine .tk 14 rfl .pickT ?_
             refine .tk 15 rfl .assign ?_
             refine .fin ?_
             refine .next (.ret (?_))
             exact .ret1 (h1:=.tmp (t:=8) rfl) ⟨_,⟨rfl,rfl⟩,Am.auto⟩
          ·have hres:=Jl (w:=w) (mx:=mx) hx (by omega:frm<=i) (fun h=>by omega) (fun _=>⟨hw1,hw2,hw3,.inl (by omega)⟩)
           refine .seq (.sr (.move (.move (.move ?_))))
           refine .sub ?_
           refine .lss ?_
           refine .move ?_
           refine .cast (d:=83) (u:=.bool false) rfl (cB9 (by first | (exact decide_eq_true (by omega)) | (exact decide_eq_false (by omega)) | (simp;done) | (simp;omega) | omega)) ?_
           refine .gF (.gF (.gF (.gF (.gF (.pickF ?_)))))
           refine .z ?_
           refine .condF rfl rfl ?_
           refine .exit (.thenExit (.thenExit (.blockExit (?_))))
           refine .next (.sr (.move (.move (.move ?_))))
           obtain ⟨bs0,post,hfst⟩:=hx.psi.fst
           have hnx:=hx.psi.nx
           refine .call (hc:=Tryz.call20) (sp:=ya (off:=((frm:Nat):Int)) (mx:=mx) (y:=(0,bs0)) (post:=post) (pre:=x.pre) (z:=(x.base,x.bs)) hfst rfl (by rw [hx.psi.all,go];omega) (by omega) ⟨by show ((0:Nat):Int)<=_;omega,by show _<=kh ((x.base:Nat):Int) x.bs;rw [hnx];omega⟩) (h:=?_)
           rintro _ _ ⟨u,rfl,rfl⟩
           refine .openR (BL.opens _ _) fun y hy=>?_
           obtain ⟨l,os2⟩:=y
           obtain ⟨hl1,_⟩:=hy
           simp only [List.cons_append,List.nil_append] at hl1 ⊢
           refine .fact (ae (el:=44) (size:=5) (k:=l.length) (v:=u) (xs:=l.flatMap BRow.v)) fun ⟨A,c,hv,hR,_,_,_⟩=>?_
           subst hv
           refine .move ?_
           refine .extract (.extract ?_)
           refine .assign (.assign (.z (.seq (.sr ?_))))
           rw [hres] at hl1
           have hlw:l.length=w:=by
            have h:=congrArg List.length hl1
            rw [List.length_map,List.length_take,List.length_drop,go] at h
            omega
           refine .move ?_
           refine .nei ?_
           refine .move (.gT (.move (.gT ?_)))
           refine .lenS ?_ sl40
           refine .gT (.move (.gT ?_))
           refine .nei ?_
           refine .pickF (.z ?_)
           refine .condF rfl (cB9 (by first | (rw [hlw];rfl) | (rw [hlw];simp;done))) ?_
           refine .skip (.next (.seq (.sr (.assign (.z (.block ?_))))))
           refine .loopA (σ:=Nat) (fun j=>[(0,.int .i64 ((i:Nat):Int)),(1,.int .i64 ((frm:Nat):Int)),(3,.int .i64 ((S:Nat):Int)),(12,.pointer (some ⟨pp,0,none⟩)),(17,.int .i64 ((w:Nat):Int)),(18,.slice A l.length c),(20,.int .i64 ((j:Nat):Int))]) (fun j=>[PT pp f [112] st [] x.ss,rowR 44 5 (.slice A l.length c) l.length (l.flatMap BRow.v)]++F) (fun j=>j<=w) (fun j=>w - j) 0 (Nat.zero_le _) ?_
           rintro j hj
           refine .seq (.sr (.move (.move ?_)))
           refine .lss ?_
           refine .z ?_
           refine .cond rfl (fun hd=>?_) (fun hd=>?_)
           ·have hjw:j < w:=by have h:((j:Nat):Int) < ((w:Nat):Int):=of_decide_eq_true hd;omega
            obtain ⟨ab,ao,rfl⟩:=l4 hR (by omega)
            refine .skip (.next (.seq (.block (.sr (.move (.move ?_))))))
            refine .idx ?_ so40
            refine .fa ?_ oz
            refine .ldR (i:=j * 5+0) (v:=.int .i64 (((frm:Nat):Int)+((j:Nat):Int))) ?_ sc3 hR (by rw [P5 hl1 (Qg hjw hw2)];exact congrArg (fun z=>some (Value.int .i64 z)) (by show (((frm+j:Nat)):Int)=_;omega))
            refine .cast (d:=115) (u:=.pointer (some ⟨ab,ao+(j * 5+0),none⟩)) rfl (congrArg (fun z=>Value.pointer (some ⟨ab,z,none⟩)) (by show ao+((j:Nat):Int).toNat * 5+0=_;rw [Int.toNat_natCast];omega)) ?_
            refine .move (.move ?_)
            refine .add ?_
            refine .nei ?_
            refine .z ?_
            refine .condF rfl (cB9 (by first | (exact decide_eq_true (by omega)) | (exact decide_eq_false (by omega)) | (simp;done) | (simp;omega) | omega)) ?_
            refine .skip (.blockNormal (.next (.region (.move ?_))))
            refine .add ?_
            refine .assign (.nil ?_)
            exact .back (j+1) (show j+1<=w from hjw) (show w - (j+1) < w - j by omega)
           ·have hsl:=hx.segs hq2 (by omega)
            have e1:((S:Nat):Int) / 200=((q:Nat):Int):=by omega
            have e2:((x.ss.length:Nat):Int)=(((i:Nat):Int)+((S:Nat):Int) / 200 - 1) / (((S:Nat):Int) / 200):=by
             rw [hsl,e1,show ((i:Nat):Int)+((q:Nat):Int) - 1=((i+q - 1:Nat):Int) by omega]
             exact Int.natCast_ediv _ _
            refine .exit (.thenExit (.thenExit (.blockExit (?_))))
            refine .next (.seq ?_)
            refine .dr ([]) [] 16 mixed .autoJ ?_
            refine .tk 0 rfl .move ?_
            refine .tk 3 rfl .move ?_
            refine .tk 4 rfl .move ?_
            refine .tk 5 rfl .quo ?_
            refine .tk 6 rfl .add ?_
            refine .tk 7 rfl .sub ?_
            refine .tk 8 rfl .move ?_
            refine .tk 9 rfl .quo ?_
            refine .tk 10 rfl .quo ?_
            refine .on 1 rfl fun hnp=>?_
            refine .call (hc:=Tryz.call21) (sp:=yb (pp:=pp) (f:=f) (dn:=[112]) (st:=st) (dp:=[]) (ss:=x.ss)) (h:=?_)
            rintro _ _ ⟨A7,c7,rfl,rfl⟩
            refine .nil (.wa hnp ?_)
            refine .tk 2 rfl (.lenS sl26) ?_
            refine .tk 11 rfl ((Qt.eqi).eq (v':=.bool true) (cB9 (decide_eq_true e2))) ?_
            refine .tk 12 rfl .move ?_
            refine .on 13 rfl fun hnp=>?_
            refine .gT ?_
            refine .call (hc:=Tryz.call12) (sp:=fu) (h:=?_)
            rintro _ _ ⟨rfl,rfl⟩
            refine .nil (.wa hnp ?_)
            refine .tk 14 rfl .pickT ?_
            refine .tk 15 rfl .assign ?_
            refine .fin ?_
            refine .next (.ret (?_))
            exact .ret1 (h1:=.tmp (t:=8) rfl) ⟨_,⟨rfl,rfl⟩,Am.auto⟩
         ·have hfe:frm=i:=by omega
          have hres:=Jl (w:=0) (mx:=mx) hx (by omega:frm<=i) (fun _=>rfl) (fun h=>by omega)
          have hw2:0<=i - frm:=Nat.zero_le _
          refine .exit (.thenExit (.thenExit (.blockExit (?_))))
          refine .next (.sr (.assign (.z (.seq (.sr (.move (.move ?_)))))))
          refine .lss ?_
          refine .z ?_
          refine .condF rfl (cB9 (by first | (exact decide_eq_true (by omega)) | (exact decide_eq_false (by omega)) | (simp;done) | (simp;omega) | omega)) ?_
          refine .skip (.next (.sr (.move (.move (.move ?_)))))
          obtain ⟨bs0,post,hfst⟩:=hx.psi.fst
          have hnx:=hx.psi.nx
          refine .call (hc:=Tryz.call20) (sp:=ya (off:=((frm:Nat):Int)) (mx:=mx) (y:=(0,bs0)) (post:=post) (pre:=x.pre) (z:=(x.base,x.bs)) hfst rfl (by rw [hx.psi.all,go];omega) (by omega) ⟨by show ((0:Nat):Int)<=_;omega,by show _<=kh ((x.base:Nat):Int) x.bs;rw [hnx];omega⟩) (h:=?_)
          rintro _ _ ⟨u,rfl,rfl⟩
          refine .openR (BL.opens _ _) fun y hy=>?_
          obtain ⟨l,os2⟩:=y
          obtain ⟨hl1,_⟩:=hy
          simp only [List.cons_append,List.nil_append] at hl1 ⊢
          refine .fact (ae (el:=44) (size:=5) (k:=l.length) (v:=u) (xs:=l.flatMap BRow.v)) fun ⟨A,c,hv,hR,_,_,_⟩=>?_
          subst hv
          refine .move ?_
          refine .extract (.extract ?_)
          refine .assign (.assign (.z (.seq (.sr ?_))))
          rw [hres] at hl1
          have hlw:l.length=0:=by
           have h:=congrArg List.length hl1
           rw [List.length_map,List.length_take,List.length_drop,go] at h
           omega
          refine .move ?_
          refine .nei ?_
          refine .move (.gT (.move (.gT ?_)))
          refine .lenS ?_ sl40
          refine .gT (.move (.gT ?_))
          refine .nei ?_
          refine .pickF (.z ?_)
          refine .condF rfl (cB9 (by first | (rw [hlw];rfl) | (rw [hlw];simp;done))) ?_
          refine .skip (.next (.seq (.sr (.assign (.z (.block ?_))))))
          refine .loopA (σ:=Nat) (fun j=>[(0,.int .i64 ((i:Nat):Int)),(1,.int .i64 ((frm:Nat):Int)),(3,.int .i64 ((S:Nat):Int)),(12,.pointer (some ⟨pp,0,none⟩)),(17,.int .i64 ((0:Nat):Int)),(18,.slice A l.length c),(20,.int .i64 ((j:Nat):Int))]) (fun j=>[PT pp f [112] st [] x.ss,rowR 44 5 (.slice A l.length c) l.length (l.flatMap BRow.v)]++F) (fun j=>j<=0) (fun j=>0 - j) 0 (Nat.zero_le _) ?_
          rintro j hj
          refine .seq (.sr (.move (.move ?_)))
          refine .lss ?_
          refine .z ?_
          refine .cond rfl (fun hd=>?_) (fun hd=>?_)
          ·have hjw:j < 0:=by have h:((j:Nat):Int) < ((0:Nat):Int):=of_decide_eq_true hd;omega
           obtain ⟨ab,ao,rfl⟩:=l4 hR (by omega)
           refine .skip (.next (.seq (.block (.sr (.move (.move ?_))))))
           refine .idx ?_ so40
           refine .fa ?_ oz
           refine .ldR (i:=j * 5+0) (v:=.int .i64 (((frm:Nat):Int)+((j:Nat):Int))) ?_ sc3 hR (by rw [P5 hl1 (Qg hjw hw2)];exact congrArg (fun z=>some (Value.int .i64 z)) (by show (((frm+j:Nat)):Int)=_;omega))
           refine .cast (d:=115) (u:=.pointer (some ⟨ab,ao+(j * 5+0),none⟩)) rfl (congrArg (fun z=>Value.pointer (some ⟨ab,z,none⟩)) (by show ao+((j:Nat):Int).toNat * 5+0=_;rw [Int.toNat_natCast];omega)) ?_
           refine .move (.move ?_)
           refine .add ?_
           refine .nei ?_
           refine .z ?_
           refine .condF rfl (cB9 (by first | (exact decide_eq_true (by omega)) | (exact decide_eq_false (by omega)) | (simp;done) | (simp;omega) | omega)) ?_
           refine .skip (.blockNormal (.next (.region (.move ?_))))
           refine .add ?_
           refine .assign (.nil ?_)
           exact .back (j+1) (show j+1<=0 from hjw) (show 0 - (j+1) < 0 - j by omega)
          ·have hsl:=hx.segs hq2 (by omega)
           have e1:((S:Nat):Int) / 200=((q:Nat):Int):=by omega
           have e2:((x.ss.length:Nat):Int)=(((i:Nat):Int)+((S:Nat):Int) / 200 - 1) / (((S:Nat):Int) / 200):=by
            rw [hsl,e1,show ((i:Nat):Int)+((q:Nat):Int) - 1=((i+q - 1:Nat):Int) by omega]
            exact Int.natCast_ediv _ _
           refine .exit (.thenExit (.thenExit (.blockExit (?_))))
           refine .next (.seq ?_)
           refine .dr ([]) [] 16 mixed .autoJ ?_
           refine .tk 0 rfl .move ?_
           refine .tk 3 rfl .move ?_
           refine .tk 4 rfl .move ?_
           refine .tk 5 rfl .quo ?_
           refine .tk 6 rfl .add ?_
           refine .tk 7 rfl .sub ?_
           refine .tk 8 rfl .move ?_
           refine .tk 9 rfl .quo ?_
           refine .tk 10 rfl .quo ?_
           refine .on 1 rfl fun hnp=>?_
           refine .call (hc:=Tryz.call21) (sp:=yb (pp:=pp) (f:=f) (dn:=[112]) (st:=st) (dp:=[]) (ss:=x.ss)) (h:=?_)
           rintro _ _ ⟨A7,c7,rfl,rfl⟩
           refine .nil (.wa hnp ?_)
           refine .tk 2 rfl (.lenS sl26) ?_
           refine .tk 11 rfl ((Qt.eqi).eq (v':=.bool true) (cB9 (decide_eq_true e2))) ?_
           refine .tk 12 rfl .move ?_
           refine .on 13 rfl fun hnp=>?_
           refine .gT ?_
           refine .call (hc:=Tryz.call12) (sp:=fu) (h:=?_)
           rintro _ _ ⟨rfl,rfl⟩
           refine .nil (.wa hnp ?_)
           refine .tk 14 rfl .pickT ?_
           refine .tk 15 rfl .assign ?_
           refine .fin ?_
           refine .next (.ret (?_))
           exact .ret1 (h1:=.tmp (t:=8) rfl) ⟨_,⟨rfl,rfl⟩,Am.auto⟩
end Go.Proofs.YtmihjfcbofejoaaGreatDoor
end
