/- A part of the proof of lp: texts of this work put together. -/
import Derived.Test.YtddpknegneihbaaGreatDoorQa6
import Derived.KernelRfl
set_option linter.unusedVariables false
set_option linter.unusedSimpArgs false
set_option linter.unusedSectionVars false
section
namespace Go.Proofs.YtddpknegneihbaaGreatDoor
open Go
theorem Sh (b a:Int):az Tryz.prog 23 [(0,.int .i64 512),(1,.int .i64 b),(2,.int .i64 a)] #[.int .i64 512,.int .i64 b,.int .i64 a,.bool false,.int .i64 0]:=fun w=>by kernel_rfl
def aw (j:Nat):Rc:=recS [] (de 400 65) ((j:Nat):Int)
theorem C3 :OwnR aw (48+405):=OwnR.of (key:=fun _=>[]) (val:=fun _=>de 400 65) (t:=fun j=>((j:Nat):Int)) (fun _=>by decide) (fun _=>by rw [if_pos rfl,ln,Mz (by decide) (by decide)]) (fun j hj=>by omega) (by decide)
theorem lp {n bytes age now:Int} (hn64:-9223372036854775808<=n/\n<=9223372036854775807) (hb64:-9223372036854775808<=bytes/\bytes<=9223372036854775807) (ha64:-9223372036854775808<=age/\age<=9223372036854775807) (hw64:-9223372036854775808<=now/\now<=9223372036854775807):Spec Tryz.prog 4 #[.int .i64 n,.int .i64 bytes,.int .i64 age,.int .i64 now] [] fun F v M=>v=.bool true/\M=F:=by
 refine Spec.intro Tryz.func4 rfl rfl fun B F=>?_
 simp only [Tryz.ntmps4,List.cons_append,List.nil_append,env0,Nat.reduceAdd]
 refine .sr (.assign (.z (.seq (.sr (.move ?_)))))
 refine .lss ?_
 refine .move ?_
 refine .split (t:=24) rfl (fun g0=>?_) (fun g0=>?_)
 ·refine .gF ?_
  refine .gF ?_
  refine .pickT ?_
  refine .move ?_
  refine .gF ?_
  refine .gF ?_
  refine .pickT ?_
  refine .move ?_
  refine .gF ?_
  refine .gF ?_
  refine .pickT ?_
  refine .move ?_
  refine .gF ?_
  refine .gF ?_
  refine .pickT ?_
  refine .move ?_
  refine .gF ?_
  refine .gF ?_
  refine .pickT ?_
  refine .move ?_
  refine .gF ?_
  refine .gF ?_
  refine .pickT ?_
  refine .move ?_
  refine .gF ?_
  refine .gF ?_
  refine .pickT ?_
  refine .z ?_
  refine .condT rfl rfl ?_
  refine .sr ?_
  refine .call (hc:=Tryz.call17) (sp:=dx) (h:=?_)
  rintro _ _ ⟨rfl,rfl⟩
  refine .assign (.z ?_)
  refine .ret (.thenRet (?_))
  exact .ret1 (h1:=.tmp (t:=8) rfl) ⟨_,⟨rfl,rfl⟩,Am.auto⟩
 ·refine .gT ?_
  refine .move ?_
  refine .gT ?_
  refine .gtr ?_
  refine .pickF ?_
  refine .move ?_
  refine .split (t:=28) rfl (fun g1=>?_) (fun g1=>?_)
  ·refine .gF ?_
   refine .gF ?_
   refine .pickT ?_
   refine .move ?_
   refine .gF ?_
   refine .gF ?_
   refine .pickT ?_
   refine .move ?_
   refine .gF ?_
   refine .gF ?_
   refine .pickT ?_
   refine .move ?_
   refine .gF ?_
   refine .gF ?_
   refine .pickT ?_
   refine .move ?_
   refine .gF ?_
   refine .gF ?_
   refine .pickT ?_
   refine .move ?_
   refine .gF ?_
   refine .gF ?_
   refine .pickT ?_
   refine .z ?_
   refine .condT rfl rfl ?_
   refine .sr ?_
   refine .call (hc:=Tryz.call17) (sp:=dx) (h:=?_)
   rintro _ _ ⟨rfl,rfl⟩
   refine .assign (.z ?_)
   refine .ret (.thenRet (?_))
   exact .ret1 (h1:=.tmp (t:=8) rfl) ⟨_,⟨rfl,rfl⟩,Am.auto⟩
  ·refine .gT ?_
   refine .move ?_
   refine .gT ?_
   refine .lss ?_
   refine .pickF ?_
   refine .move ?_
   refine .split (t:=32) rfl (fun g2=>?_) (fun g2=>?_)
   ·refine .gF ?_
    refine .gF ?_
    refine .pickT ?_
    refine .move ?_
    refine .gF ?_
    refine .gF ?_
    refine .pickT ?_
    refine .move ?_
    refine .gF ?_
    refine .gF ?_
    refine .pickT ?_
    refine .move ?_
    refine .gF ?_
    refine .gF ?_
    refine .pickT ?_
    refine .move ?_
    refine .gF ?_
    refine .gF ?_
    refine .pickT ?_
    refine .z ?_
    refine .condT rfl rfl ?_
    refine .sr ?_
    refine .call (hc:=Tryz.call17) (sp:=dx) (h:=?_)
    rintro _ _ ⟨rfl,rfl⟩
    refine .assign (.z ?_)
    refine .ret (.thenRet (?_))
    exact .ret1 (h1:=.tmp (t:=8) rfl) ⟨_,⟨rfl,rfl⟩,Am.auto⟩
   ·refine .gT ?_
    refine .move ?_
    refine .gT ?_
    refine .gtr ?_
    refine .pickF ?_
    refine .move ?_
    refine .split (t:=36) rfl (fun g3=>?_) (fun g3=>?_)
    ·refine .gF ?_
     refine .gF ?_
     refine .pickT ?_
     refine .move ?_
     refine .gF ?_
     refine .gF ?_
     refine .pickT ?_
     refine .move ?_
     refine .gF ?_
     refine .gF ?_
     refine .pickT ?_
     refine .move ?_
     refine .gF ?_
     refine .gF ?_
     refine .pickT ?_
     refine .z ?_
     refine .condT rfl rfl ?_
     refine .sr ?_
     refine .call (hc:=Tryz.call17) (sp:=dx) (h:=?_)
     rintro _ _ ⟨rfl,rfl⟩
     refine .assign (.z ?_)
     refine .ret (.thenRet (?_))
     exact .ret1 (h1:=.tmp (t:=8) rfl) ⟨_,⟨rfl,rfl⟩,Am.auto⟩
    ·refine .gT ?_
     refine .move ?_
     refine .gT ?_
     refine .lss ?_
     refine .pickF ?_
     refine .move ?_
     refine .split (t:=40) rfl (fun g4=>?_) (fun g4=>?_)
     ·refine .gF ?_
      refine .gF ?_
      refine .pickT ?_
      refine .move ?_
      refine .gF ?_
      refine .gF ?_
      refine .pickT ?_
      refine .move ?_
      refine .gF ?_
      refine .gF ?_
      refine .pickT ?_
      refine .z ?_
      refine .condT rfl rfl ?_
      refine .sr ?_
      refine .call (hc:=Tryz.call17) (sp:=dx) (h:=?_)
      rintro _ _ ⟨rfl,rfl⟩
      refine .assign (.z ?_)
      refine .ret (.thenRet (?_))
      exact .ret1 (h1:=.tmp (t:=8) rfl) ⟨_,⟨rfl,rfl⟩,Am.auto⟩
     ·refine .gT ?_
      refine .move ?_
      refine .gT ?_
      refine .gtr ?_
      refine .pickF ?_
      refine .move ?_
      refine .split (t:=44) rfl (fun g5=>?_) (fun g5=>?_)
      ·refine .gF ?_
       refine .gF ?_
       refine .pickT ?_
       refine .move ?_
       refine .gF ?_
       refine .gF ?_
       refine .pickT ?_
       refine .z ?_
       refine .condT rfl rfl ?_
       refine .sr ?_
       refine .call (hc:=Tryz.call17) (sp:=dx) (h:=?_)
       rintro _ _ ⟨rfl,rfl⟩
       refine .assign (.z ?_)
       refine .ret (.thenRet (?_))
       exact .ret1 (h1:=.tmp (t:=8) rfl) ⟨_,⟨rfl,rfl⟩,Am.auto⟩
      ·refine .gT ?_
       refine .move ?_
       refine .gT ?_
       refine .lss ?_
       refine .pickF ?_
       refine .move ?_
       refine .split (t:=48) rfl (fun g6=>?_) (fun g6=>?_)
       ·refine .gF ?_
        refine .gF ?_
        refine .pickT ?_
        refine .z ?_
        refine .condT rfl rfl ?_
        refine .sr ?_
        refine .call (hc:=Tryz.call17) (sp:=dx) (h:=?_)
        rintro _ _ ⟨rfl,rfl⟩
        refine .assign (.z ?_)
        refine .ret (.thenRet (?_))
        exact .ret1 (h1:=.tmp (t:=8) rfl) ⟨_,⟨rfl,rfl⟩,Am.auto⟩
       ·refine .gT ?_
        refine .move ?_
        refine .gT ?_
        refine .gtr ?_
        refine .pickF ?_
        refine .z ?_
        refine .cond rfl (fun g7=>?_) (fun g7=>?_)
        ·refine .sr ?_
         refine .call (hc:=Tryz.call17) (sp:=dx) (h:=?_)
         rintro _ _ ⟨rfl,rfl⟩
         refine .assign (.z ?_)
         refine .ret (.thenRet (?_))
         exact .ret1 (h1:=.tmp (t:=8) rfl) ⟨_,⟨rfl,rfl⟩,Am.auto⟩
        ·have h1:¬ n < 0:=by have h:¬ n < 0:=of_decide_eq_false g0;omega
         have h2:¬ 12 < n:=by have h:¬ n > 12:=of_decide_eq_false g1;omega
         have h3:¬ bytes < -1:=by have h:¬ bytes < -1:=of_decide_eq_false g2;omega
         have h4:¬ 5000 < bytes:=by have h:¬ bytes > 5000:=of_decide_eq_false g3;omega
         have h5:¬ age < -1:=by have h:¬ age < -1:=of_decide_eq_false g4;omega
         have h6:¬ 50 < age:=by have h:¬ age > 50:=of_decide_eq_false g5;omega
         have h7:¬ now < 0:=by have h:¬ now < 0:=of_decide_eq_false g6;omega
         have h8:¬ 100 < now:=by have h:¬ now > 100:=of_decide_eq_false g7;omega
         obtain ⟨n,rfl⟩:∃ m:Nat,n=((m:Nat):Int):=⟨n.toNat,by omega⟩
         obtain ⟨st,hstd⟩:∃ st:Sts,st=⟨512,bytes,age,false,0⟩:=⟨_,rfl⟩
         have hst:ev st=true:=by
          rw [hstd]
          unfold ev
          simp only [Bool.and_eq_true,decide_eq_true_eq]
          omega
         have hsg:st.seg=512:=by rw [hstd]
         have hsb:st.bytes=bytes:=by rw [hstd]
         have hsa:st.age=age:=by rw [hstd]
         refine .skip (.next (.sr (.move (.move ?_))))
         refine .build ?_ (Sh _ _)
         refine .cast (d:=56) (u:=.agg st.v.toArray) rfl (by rw [hstd];rfl) ?_
         refine .call (hc:=Tryz.call18) (sp:=C2 (st:=st) hst) (h:=?_)
         rintro _ _ ⟨d,f,pp,rfl,rfl⟩
         refine .move ?_
         refine .extract ?_
         refine .extract ?_
         refine .extract ?_
         refine .extract ?_
         refine .assign (.assign (.assign (.assign (.z (.seq (.sr (.move ?_)))))))
         refine .not ?_
         refine .z ?_
         refine .condF rfl rfl ?_
         refine .skip (.next (.seq (.sr (.assign (.z (.block ?_))))))
         refine .to (A:=PT pp f [112] st [] [(0,[])]) (A':=PT pp f [112] st [] (ownS aw 0)) (fun h hh=>hh) ?_
         refine .to (A:=DRF f (pE 1500 250) [112] 1 [(0,[])]) (A':=DRF f (pE 1500 250) [112] (0+1) (ownS aw 0)) (fun h hh=>hh) ?_
         refine .loopA (σ:=Nat) (fun i=>[(0,.int .i64 ((n:Nat):Int)),(1,.int .i64 bytes),(2,.int .i64 age),(3,.int .i64 now),(11,.pointer (some ⟨pp,0,none⟩)),(13,.int .i64 ((i:Nat):Int))]) (fun i=>[PT pp f [112] st [] (ownS aw i),DRF f (pE 1500 250) [112] (i+1) (ownS aw i)]++F) (fun i=>i<=n) (fun i=>n - i) 0 (Nat.zero_le _) ?_
         rintro i hi
         refine .seq (.sr (.move (.move ?_)))
         refine .lss ?_
         refine .z ?_
         refine .cond rfl (fun hd=>?_) (fun hd=>?_)
         ·have hin:i < n:=by have h:((i:Nat):Int) < ((n:Nat):Int):=of_decide_eq_true hd;omega
          refine .skip (.next (.seq (.block (.sr (.move (.move ?_))))))
          refine .call (hc:=Tryz.call20) (sp:=Iq (n:=1) (size:=400) (key:=[]) (t:=((i:Nat):Int)) (by decide) (by decide)) (h:=?_)
          rintro _ _ ⟨A1,c1,rfl,rfl⟩
          refine .fact (ag (el:=74) (size:=6) (k:=1) (v:=.slice (some A1) (List.replicate 1 (recS [] (de 400 65) ((i:Nat):Int))).length c1) (xs:=(List.replicate 1 (recS [] (de 400 65) ((i:Nat):Int))).flatMap Rc.v)) fun ⟨A5,c5,hv5,hR5,_,_,_⟩=>?_
          injection hv5 with hA5 _ hc5
          subst hA5
          subst hc5
          refine .call (hc:=Tryz.call19) (sp:=zn (dn:=[112]) (n:=i) (N:=i+1) (r:=aw) xp C3 hsg (by omega) (by omega) (by show i+1+4<=250;omega) (by decide) hR5) (h:=?_)
          rintro _ _ ⟨rfl,rfl⟩
          refine .move ?_
          refine .extract ?_
          refine .extract ?_
          refine .assign (.assign (.x (.move ?_)))
          refine .nei ?_
          refine .z ?_
          refine .condF rfl rfl ?_
          refine .skip (.blockNormal (.next (.region (.move ?_))))
          refine .add ?_
          refine .assign (.nil ?_)
          exact .back (i+1) (show i+1<=n from hin) (show n - (i+1) < n - i by omega)
         ·have hge:i=n:=by have h:¬ ((i:Nat):Int) < ((n:Nat):Int):=of_decide_eq_false hd;have h2:i<=n:=hi;omega
          subst hge
          by_cases hi0:i=0
          ·subst hi0
           refine .to (A:=PT pp f [112] st [] (ownS aw 0)) (A':=PT pp f [112] st [] ((0,[]) :: [])) (fun h hh=>hh) ?_
           refine .to (A:=DRF f (pE 1500 250) [112] (0+1) (ownS aw 0)) (A':=DRF f (pE 1500 250) [112] 1 ((0,[]) :: [])) (fun h hh=>hh) ?_
           refine .exit (.thenExit (.thenExit (.blockExit (?_))))
           refine .next (.sr (.assign (.z (.seq (.sr (.assign (.z (.block ?_))))))))
           refine .loopN 2 (RC.succ ?_)
           refine .seq (.sr (.move ?_))
           refine .lss ?_
           refine .z ?_
           refine .condT rfl rfl ?_
           refine .skip (.next (.seq (.block (.sr (.move (.move ?_))))))
           refine .call (hc:=Tryz.call21) (sp:=vd (pp:=pp) (f:=f) (N:=1) (dn:=[112]) (dp:=[]) (y:=(0,[])) (post:=[]) (now:=now) (st:=st) xp (zm (by decide) (by decide)) (by decide) hst (by omega) (by decide) (by decide) (fun b hb=>absurd hb List.not_mem_nil) (fun h=>absurd rfl h)) (h:=?_)
           rintro _ _ (⟨_,rfl,rfl⟩ | ⟨h0,_⟩)
           rotate_left
           ·cases h0
           refine .move ?_
           refine .extract ?_
           refine .extract ?_
           refine .assign (.assign (.z (.seq (.sr (.move ?_)))))
           refine .nei ?_
           refine .z ?_
           refine .condF rfl rfl ?_
           refine .skip (.next (.seq (.sr (.move ?_))))
           refine .not ?_
           refine .z ?_
           refine .condT rfl rfl ?_
           refine .exit (.thenExit (.blockPast rfl (.thenExit (.thenExit (.blockExit (?_))))))
           refine .next (.sr (.assign (.x (.assign (.z (.seq (.block ?_)))))))
           refine .loopN 1 (RC.succ ?_)
           refine .seq (.sr (.move (.move ?_)))
           refine .sub ?_
           refine .lss ?_
           refine .move ?_
           refine .gF ?_
           refine .gF ?_
           refine .gF ?_
           refine .gU ?_
           refine .gU ?_
           refine .gU ?_
           refine .gU ?_
           refine .gU ?_
           refine .gU ?_
           refine .gU ?_
           refine .gU ?_
           refine .gF ?_
           refine .gF ?_
           refine .gU ?_
           refine .gU ?_
           refine .gU ?_
           refine .gU ?_
           refine .gU ?_
           refine .gU ?_
           refine .gU ?_
           refine .gU ?_
           refine .gU ?_
           refine .gF ?_
           refine .pickF ?_
           refine .z ?_
           refine .condF rfl rfl ?_
           refine .exit (.thenExit (.thenExit (.blockExit (?_))))
           refine .next (.sr (.move (.move ?_)))
           refine .eqi ?_
           refine .move ?_
           refine .gT ?_
           refine .move ?_
           refine .gT ?_
           refine .call (hc:=Tryz.call22) (sp:=ij (post:=[]) (y:=(0,[])) rfl) (h:=?_)
           rintro _ _ ⟨rfl,rfl⟩
           refine .gT ?_
           refine .move ?_
           refine .gT ?_
           refine .eqi ?_
           refine .pickT ?_
           refine .move ?_
           refine .gT ?_
           refine .move ?_
           refine .gT ?_
           refine .call (hc:=Tryz.call23) (sp:=iv (pre:=[]) (y:=(0,[])) rfl (by decide)) (h:=?_)
           rintro _ _ ⟨rfl,rfl⟩
           refine .gT ?_
           refine .move ?_
           refine .gT ?_
           refine .eqi ?_
           refine .pickT ?_
           refine .move ?_
           refine .gT ?_
           refine .call (hc:=Tryz.call17) (sp:=dx) (h:=?_)
           rintro _ _ ⟨rfl,rfl⟩
           refine .pickT ?_
           refine .assign (.z ?_)
           refine .ret (?_)
           exact .ret1 (h1:=.tmp (t:=8) rfl) ⟨_,⟨rfl,rfl⟩,Am.auto⟩
          ·obtain ⟨m,rfl⟩:∃ m,i=m+1:=⟨i - 1,by omega⟩
           refine .to (A:=PT pp f [112] st [] (ownS aw (m+1))) (A':=PT pp f [112] st [] (ownT aw 0 (m+1))) (fun h hh=>hh) ?_
           refine .to (A:=DRF f (pE 1500 250) [112] (m+1+1) (ownS aw (m+1))) (A':=DRF f (pE 1500 250) [112] (m+1+1) (ownT aw 0 (m+1))) (fun h hh=>hh) ?_
           refine .exit (.thenExit (.thenExit (.blockExit (?_))))
           refine .next (.sr (.assign (.z (.seq (.sr (.assign (.z (.block ?_))))))))
           refine .loopA (σ:=Nat×List Value) (fun y=>[(0,.int .i64 ((m+1:Nat):Int)),(1,.int .i64 bytes),(2,.int .i64 age),(3,.int .i64 now),(11,.pointer (some ⟨pp,0,none⟩)),(16,.int .i64 ((y.1:Nat):Int)),(17,.int .i64 ((y.1:Nat):Int))]) (fun y=>[PT pp f [112] st y.2 (ownT aw y.1 (m+1 - y.1)),DRF f (pE 1500 250) [112] (m+1+1) (ownT aw y.1 (m+1 - y.1))]++F) (fun y=>y.1 < m+1/\∀ j < y.1,m - j≠0/\((0<=st.age/\(aw j).time+st.age < now) ∨ (0<=st.bytes/\st.bytes < (((m - j) * (48+405):Nat):Int)))) (fun y=>m+1 - y.1) (0,[]) ⟨Nat.succ_pos _,fun j hj=>absurd hj (Nat.not_lt_zero _)⟩ ?_
           rintro y hy
           obtain ⟨k,dp⟩:=y
           obtain ⟨hk,hall⟩:=hy
           simp only at hk hall ⊢
           refine .seq (.sr (.move ?_))
           refine .lss ?_
           refine .z ?_
           refine .condT rfl (cB9 (by first | (exact decide_eq_true (by omega)) | (exact decide_eq_false (by omega)) | (simp;done) | (simp;omega) | omega)) ?_
           refine .skip (.next (.seq (.block (.sr (.move (.move ?_))))))
           refine .to (A:=PT pp f [112] st dp (ownT aw k (m+1 - k))) (A':=PT pp f [112] st dp (ownT aw k (m - k+1))) (fun h hh=>by rw [show m - k+1=m+1 - k by omega];exact hh) ?_
           refine .to (A:=DRF f (pE 1500 250) [112] (m+1+1) (ownT aw k (m+1 - k))) (A':=DRF f (pE 1500 250) [112] (m+1+1) (ownT aw k (m - k+1))) (fun h hh=>by rw [show m - k+1=m+1 - k by omega];exact hh) ?_
           refine .call (hc:=Tryz.call21) (sp:=oy (pp:=pp) (f:=f) (N:=m+1+1) (dn:=[112]) (w:=k) (k:=m - k) (now:=now) (m:=48+405) xp C3 hst (by omega) (by omega) (by show m+1+1+3<=250;omega) (by decide) (by omega)) (h:=?_)
           rintro _ _ (⟨hgo,rfl,rfl⟩ | ⟨hgo,x,rfl,rfl⟩)
           ·have hkf:¬ ub st now aw (48+405) k (m - k)=true:=by rw [hgo];decide
            rw [ownGo_iff,hsb,hsa,show (aw k).time=((k:Nat):Int) from rfl] at hkf
            clear hgo
            refine .move ?_
            refine .extract ?_
            refine .extract ?_
            refine .assign (.assign (.z (.seq (.sr (.move ?_)))))
            refine .nei ?_
            refine .z ?_
            refine .condF rfl rfl ?_
            refine .skip (.next (.seq (.sr (.move ?_))))
            refine .not ?_
            refine .z ?_
            refine .condT rfl rfl ?_
            refine .exit (.thenExit (.blockPast rfl (.thenExit (.thenExit (.blockExit (?_))))))
            refine .next (.sr (.assign (.x (.assign (.z (.seq (.block ?_)))))))
            refine .loopA (σ:=Nat) (fun u=>[(0,.int .i64 ((m+1:Nat):Int)),(1,.int .i64 bytes),(2,.int .i64 age),(3,.int .i64 now),(11,.pointer (some ⟨pp,0,none⟩)),(16,.int .i64 ((k:Nat):Int)),(20,.int .i64 453),(21,.int .i64 ((u:Nat):Int))]) (fun u=>[PT pp f [112] st dp (ownT aw k (m - k+1)),DRF f (pE 1500 250) [112] (m+1+1) (ownT aw k (m - k+1))]++F) (fun u=>u<=k) (fun u=>k - u) 0 (Nat.zero_le _) ?_
            rintro u hu
            refine .seq (.sr (.move (.move ?_)))
            refine .sub ?_
            refine .lss ?_
            refine .move ?_
            by_cases c1:u < m
            ·by_cases c2:0<=bytes
             ·by_cases c3:bytes < (((m+1:Nat):Int) - 1 - ((u:Nat):Int)) * 453
              ·have hlt:u < k:=by
                refine Classical.byContradiction fun hx=>?_
                have hx2:u=k:=by omega
                subst hx2
                omega
               refine .cast (d:=98) (u:=.bool true) rfl (cB9 (by first | (exact decide_eq_true (by omega)) | (exact decide_eq_false (by omega)) | (simp;done) | (simp;omega) | omega)) ?_
               refine .gT ?_
               refine .move ?_
               refine .gT ?_
               refine .geq ?_
               refine .gT ?_
               refine .move ?_
               refine .cast (d:=101) (u:=.bool true) rfl (cB9 (by first | (exact decide_eq_true (by omega)) | (exact decide_eq_false (by omega)) | (simp;done) | (simp;omega) | omega)) ?_
               refine .gT ?_
               refine .move ?_
               refine .gT ?_
               refine .sub ?_
               refine .gT ?_
               refine .move ?_
               refine .gT ?_
               refine .sub ?_
               refine .gT ?_
               refine .move ?_
               refine .gT ?_
               refine .mul ?_
               refine .gT ?_
               refine .move ?_
               refine .gT ?_
               refine .gtr ?_
               refine .gT ?_
               refine .pickT ?_
               refine .gT ?_
               refine .move ?_
               refine .cast (d:=111) (u:=.bool true) rfl (cB9 (by first | (exact decide_eq_true (by omega)) | (exact decide_eq_false (by omega)) | (simp;done) | (simp;omega) | omega)) ?_
               refine .gF ?_
               refine .gF ?_
               refine .gF ?_
               refine .gU ?_
               refine .gU ?_
               refine .gU ?_
               refine .gU ?_
               refine .gU ?_
               refine .gF ?_
               refine .gT ?_
               refine .pickT ?_
               refine .pickT ?_
               refine .z ?_
               refine .condT rfl rfl ?_
               refine .skip (.next (.block (.region (.move ?_))))
               refine .add ?_
               refine .assign (.nil (.blockNormal ?_))
               exact .back (u+1) (show u+1<=k from hlt) (show k - (u+1) < k - u by omega)
              ·by_cases c4:0<=age
               ·by_cases c5:age < now - ((u:Nat):Int)
                ·have hlt:u < k:=by
                  refine Classical.byContradiction fun hx=>?_
                  have hx2:u=k:=by omega
                  subst hx2
                  omega
                 refine .cast (d:=98) (u:=.bool true) rfl (cB9 (by first | (exact decide_eq_true (by omega)) | (exact decide_eq_false (by omega)) | (simp;done) | (simp;omega) | omega)) ?_
                 refine .gT ?_
                 refine .move ?_
                 refine .gT ?_
                 refine .geq ?_
                 refine .gT ?_
                 refine .move ?_
                 refine .cast (d:=101) (u:=.bool true) rfl (cB9 (by first | (exact decide_eq_true (by omega)) | (exact decide_eq_false (by omega)) | (simp;done) | (simp;omega) | omega)) ?_
                 refine .gT ?_
                 refine .move ?_
                 refine .gT ?_
                 refine .sub ?_
                 refine .gT ?_
                 refine .move ?_
                 refine .gT ?_
                 refine .sub ?_
                 refine .gT ?_
                 refine .move ?_
                 refine .gT ?_
                 refine .mul ?_
                 refine .gT ?_
                 refine .move ?_
                 refine .gT ?_
                 refine .gtr ?_
                 refine .gT ?_
                 refine .pickT ?_
                 refine .gT ?_
                 refine .move ?_
                 refine .cast (d:=111) (u:=.bool false) rfl (cB9 (by first | (exact decide_eq_true (by omega)) | (exact decide_eq_false (by omega)) | (simp;done) | (simp;omega) | omega)) ?_
                 refine .gT ?_
                 refine .move ?_
                 refine .gT ?_
                 refine .geq ?_
                 refine .gT ?_
                 refine .move ?_
                 refine .cast (d:=114) (u:=.bool true) rfl (cB9 (by first | (exact decide_eq_true (by omega)) | (exact decide_eq_false (by omega)) | (simp;done) | (simp;omega) | omega)) ?_
                 refine .gT ?_
                 refine .move ?_
                 refine .gT ?_
                 refine .move ?_
                 refine .gT ?_
                 refine .sub ?_
                 refine .gT ?_
                 refine .move ?_
                 refine .gT ?_
                 refine .gtr ?_
                 refine .gT ?_
                 refine .pickT ?_
                 refine .gT ?_
                 refine .pickF ?_
                 refine .pickT ?_
                 refine .z ?_
                 refine .condT rfl (cB9 (by first | (exact decide_eq_true (by omega)) | (exact decide_eq_false (by omega)) | (simp;done) | (simp;omega) | omega)) ?_
                 refine .skip (.next (.block (.region (.move ?_))))
                 refine .add ?_
                 refine .assign (.nil (.blockNormal ?_))
                 exact .back (u+1) (show u+1<=k from hlt) (show k - (u+1) < k - u by omega)
                ·have hxe:u=k:=by
                  refine Classical.byContradiction fun hx=>?_
                  have hx2:=hall u (by omega)
                  rw [hsb,hsa,show (aw u).time=((u:Nat):Int) from rfl] at hx2
                  omega
                 subst hxe
                 refine .cast (d:=98) (u:=.bool true) rfl (cB9 (by first | (exact decide_eq_true (by omega)) | (exact decide_eq_false (by omega)) | (simp;done) | (simp;omega) | omega)) ?_
                 refine .gT ?_
                 refine .move ?_
                 refine .gT ?_
                 refine .geq ?_
                 refine .gT ?_
                 refine .move ?_
                 refine .cast (d:=101) (u:=.bool true) rfl (cB9 (by first | (exact decide_eq_true (by omega)) | (exact decide_eq_false (by omega)) | (simp;done) | (simp;omega) | omega)) ?_
                 refine .gT ?_
                 refine .move ?_
                 refine .gT ?_
                 refine .sub ?_
                 refine .gT ?_
                 refine .move ?_
                 refine .gT ?_
                 refine .sub ?_
                 refine .gT ?_
                 refine .move ?_
                 refine .gT ?_
                 refine .mul ?_
                 refine .gT ?_
                 refine .move ?_
                 refine .gT ?_
                 refine .gtr ?_
                 refine .gT ?_
                 refine .pickT ?_
                 refine .gT ?_
                 refine .move ?_
                 refine .cast (d:=111) (u:=.bool false) rfl (cB9 (by first | (exact decide_eq_true (by omega)) | (exact decide_eq_false (by omega)) | (simp;done) | (simp;omega) | omega)) ?_
                 refine .gT ?_
                 refine .move ?_
                 refine .gT ?_
                 refine .geq ?_
                 refine .gT ?_
                 refine .move ?_
                 refine .cast (d:=114) (u:=.bool true) rfl (cB9 (by first | (exact decide_eq_true (by omega)) | (exact decide_eq_false (by omega)) | (simp;done) | (simp;omega) | omega)) ?_
                 refine .gT ?_
                 refine .move ?_
                 refine .gT ?_
                 refine .move ?_
                 refine .gT ?_
                 refine .sub ?_
                 refine .gT ?_
                 refine .move ?_
                 refine .gT ?_
                 refine .gtr ?_
                 refine .gT ?_
                 refine .pickT ?_
                 refine .gT ?_
                 refine .pickF ?_
                 refine .pickT ?_
                 refine .z ?_
                 refine .condF rfl (cB9 (by first | (exact decide_eq_true (by omega)) | (exact decide_eq_false (by omega)) | (simp;done) | (simp;omega) | omega)) ?_
                 refine .exit (.thenExit (.thenExit (.blockExit (?_))))
                 refine .next (.sr (.move (.move ?_)))
                 refine .eqi ?_
                 refine .move ?_
                 refine .cast (d:=128) (u:=.bool true) rfl (cB9 (by first | (exact decide_eq_true (by omega)) | (exact decide_eq_false (by omega)) | (simp;done) | (simp;omega) | omega)) ?_
                 refine .gT ?_
                 refine .move ?_
                 refine .gT ?_
                 refine .call (hc:=Tryz.call22) (sp:=ij (ss:=ownT aw u (m - u+1)) (post:=ownT aw (u+1) (m - u)) (y:=(u,[repB ((u:Nat):Int) 1 (aw u)])) (fy _ _ _)) (h:=?_)
                 rintro _ _ ⟨rfl,rfl⟩
                 refine .gT ?_
                 refine .move ?_
                 refine .gT ?_
                 refine .eqi ?_
                 refine .pickT ?_
                 refine .move ?_
                 refine .cast (d:=134) (u:=.bool true) rfl (cB9 (by first | (exact decide_eq_true (by omega)) | (exact decide_eq_false (by omega)) | (simp;done) | (simp;omega) | omega)) ?_
                 refine .gT ?_
                 refine .move ?_
                 refine .gT ?_
                 refine .call (hc:=Tryz.call23) (sp:=iv (ss:=ownT aw u (m - u+1)) (pre:=ownT aw u (m - u)) (y:=(u+(m - u),[repB (((u+(m - u):Nat)):Int) 1 (aw (u+(m - u)))])) (fz _ _ _) (by show 1<=_;decide)) (h:=?_)
                 rintro _ _ ⟨rfl,rfl⟩
                 rw [repB_next]
                 refine .gT ?_
                 refine .move ?_
                 refine .gT ?_
                 refine .eqi ?_
                 refine .pickT ?_
                 refine .move ?_
                 refine .cast (d:=140) (u:=.bool true) rfl (cB9 (by first | (exact decide_eq_true (by omega)) | (exact decide_eq_false (by omega)) | (simp;done) | (simp;omega) | omega)) ?_
                 refine .gT ?_
                 refine .call (hc:=Tryz.call17) (sp:=dx) (h:=?_)
                 rintro _ _ ⟨rfl,rfl⟩
                 refine .pickT ?_
                 refine .assign (.z ?_)
                 refine .ret (?_)
                 exact .ret1 (h1:=.tmp (t:=8) rfl) ⟨_,⟨rfl,rfl⟩,Am.auto⟩
               ·have hxe:u=k:=by
                 refine Classical.byContradiction fun hx=>?_
                 have hx2:=hall u (by omega)
                 rw [hsb,hsa,show (aw u).time=((u:Nat):Int) from rfl] at hx2
                 omega
                subst hxe
                refine .cast (d:=98) (u:=.bool true) rfl (cB9 (by first | (exact decide_eq_true (by omega)) | (exact decide_eq_false (by omega)) | (simp;done) | (simp;omega) | omega)) ?_
                refine .gT ?_
                refine .move ?_
                refine .gT ?_
                refine .geq ?_
                refine .gT ?_
                refine .move ?_
                refine .cast (d:=101) (u:=.bool true) rfl (cB9 (by first | (exact decide_eq_true (by omega)) | (exact decide_eq_false (by omega)) | (simp;done) | (simp;omega) | omega)) ?_
                refine .gT ?_
                refine .move ?_
                refine .gT ?_
                refine .sub ?_
                refine .gT ?_
                refine .move ?_
                refine .gT ?_
                refine .sub ?_
                refine .gT ?_
                refine .move ?_
                refine .gT ?_
                refine .mul ?_
                refine .gT ?_
                refine .move ?_
                refine .gT ?_
                refine .gtr ?_
                refine .gT ?_
                refine .pickT ?_
                refine .gT ?_
                refine .move ?_
                refine .cast (d:=111) (u:=.bool false) rfl (cB9 (by first | (exact decide_eq_true (by omega)) | (exact decide_eq_false (by omega)) | (simp;done) | (simp;omega) | omega)) ?_
                refine .gT ?_
                refine .move ?_
                refine .gT ?_
                refine .geq ?_
                refine .gT ?_
                refine .move ?_
                refine .cast (d:=114) (u:=.bool false) rfl (cB9 (by first | (exact decide_eq_true (by omega)) | (exact decide_eq_false (by omega)) | (simp;done) | (simp;omega) | omega)) ?_
                refine .gF ?_
                refine .gF ?_
                refine .gF ?_
                refine .gF ?_
                refine .gF ?_
                refine .gT ?_
                refine .pickF ?_
                refine .gT ?_
                refine .pickF ?_
                refine .pickT ?_
                refine .z ?_
                refine .condF rfl rfl ?_
                refine .exit (.thenExit (.thenExit (.blockExit (?_))))
                refine .next (.sr (.move (.move ?_)))
                refine .eqi ?_
                refine .move ?_
                refine .cast (d:=128) (u:=.bool true) rfl (cB9 (by first | (exact decide_eq_true (by omega)) | (exact decide_eq_false (by omega)) | (simp;done) | (simp;omega) | omega)) ?_
                refine .gT ?_
                refine .move ?_
                refine .gT ?_
                refine .call (hc:=Tryz.call22) (sp:=ij (ss:=ownT aw u (m - u+1)) (post:=ownT aw (u+1) (m - u)) (y:=(u,[repB ((u:Nat):Int) 1 (aw u)])) (fy _ _ _)) (h:=?_)
                rintro _ _ ⟨rfl,rfl⟩
                refine .gT ?_
                refine .move ?_
                refine .gT ?_
                refine .eqi ?_
                refine .pickT ?_
                refine .move ?_
                refine .cast (d:=134) (u:=.bool true) rfl (cB9 (by first | (exact decide_eq_true (by omega)) | (exact decide_eq_false (by omega)) | (simp;done) | (simp;omega) | omega)) ?_
                refine .gT ?_
                refine .move ?_
                refine .gT ?_
                refine .call (hc:=Tryz.call23) (sp:=iv (ss:=ownT aw u (m - u+1)) (pre:=ownT aw u (m - u)) (y:=(u+(m - u),[repB (((u+(m - u):Nat)):Int) 1 (aw (u+(m - u)))])) (fz _ _ _) (by show 1<=_;decide)) (h:=?_)
                rintro _ _ ⟨rfl,rfl⟩
                rw [repB_next]
                refine .gT ?_
                refine .move ?_
                refine .gT ?_
                refine .eqi ?_
                refine .pickT ?_
                refine .move ?_
                refine .cast (d:=140) (u:=.bool true) rfl (cB9 (by first | (exact decide_eq_true (by omega)) | (exact decide_eq_false (by omega)) | (simp;done) | (simp;omega) | omega)) ?_
                refine .gT ?_
                refine .call (hc:=Tryz.call17) (sp:=dx) (h:=?_)
                rintro _ _ ⟨rfl,rfl⟩
                refine .pickT ?_
                refine .assign (.z ?_)
                refine .ret (?_)
                exact .ret1 (h1:=.tmp (t:=8) rfl) ⟨_,⟨rfl,rfl⟩,Am.auto⟩
             ·by_cases c4:0<=age
              ·by_cases c5:age < now - ((u:Nat):Int)
               ·have hlt:u < k:=by
                 refine Classical.byContradiction fun hx=>?_
                 have hx2:u=k:=by omega
                 subst hx2
                 omega
                refine .cast (d:=98) (u:=.bool true) rfl (cB9 (by first | (exact decide_eq_true (by omega)) | (exact decide_eq_false (by omega)) | (simp;done) | (simp;omega) | omega)) ?_
                refine .gT ?_
                refine .move ?_
                refine .gT ?_
                refine .geq ?_
                refine .gT ?_
                refine .move ?_
                refine .cast (d:=101) (u:=.bool false) rfl (cB9 (by first | (exact decide_eq_true (by omega)) | (exact decide_eq_false (by omega)) | (simp;done) | (simp;omega) | omega)) ?_
                refine .gF ?_
                refine .gF ?_
                refine .gF ?_
                refine .gF ?_
                refine .gF ?_
                refine .gF ?_
                refine .gF ?_
                refine .gF ?_
                refine .gT ?_
                refine .pickF ?_
                refine .gT ?_
                refine .move ?_
                refine .gT ?_
                refine .move ?_
                refine .gT ?_
                refine .geq ?_
                refine .gT ?_
                refine .move ?_
                refine .cast (d:=114) (u:=.bool true) rfl (cB9 (by first | (exact decide_eq_true (by omega)) | (exact decide_eq_false (by omega)) | (simp;done) | (simp;omega) | omega)) ?_
                refine .gT ?_
                refine .move ?_
                refine .gT ?_
                refine .move ?_
                refine .gT ?_
                refine .sub ?_
                refine .gT ?_
                refine .move ?_
                refine .gT ?_
                refine .gtr ?_
                refine .gT ?_
                refine .pickT ?_
                refine .gT ?_
                refine .pickF ?_
                refine .pickT ?_
                refine .z ?_
                refine .condT rfl (cB9 (by first | (exact decide_eq_true (by omega)) | (exact decide_eq_false (by omega)) | (simp;done) | (simp;omega) | omega)) ?_
                refine .skip (.next (.block (.region (.move ?_))))
                refine .add ?_
                refine .assign (.nil (.blockNormal ?_))
                exact .back (u+1) (show u+1<=k from hlt) (show k - (u+1) < k - u by omega)
               ·have hxe:u=k:=by
                 refine Classical.byContradiction fun hx=>?_
                 have hx2:=hall u (by omega)
                 rw [hsb,hsa,show (aw u).time=((u:Nat):Int) from rfl] at hx2
                 omega
                subst hxe
                refine .cast (d:=98) (u:=.bool true) rfl (cB9 (by first | (exact decide_eq_true (by omega)) | (exact decide_eq_false (by omega)) | (simp;done) | (simp;omega) | omega)) ?_
                refine .gT ?_
                refine .move ?_
                refine .gT ?_
                refine .geq ?_
                refine .gT ?_
                refine .move ?_
                refine .cast (d:=101) (u:=.bool false) rfl (cB9 (by first | (exact decide_eq_true (by omega)) | (exact decide_eq_false (by omega)) | (simp;done) | (simp;omega) | omega)) ?_
                refine .gF ?_
                refine .gF ?_
                refine .gF ?_
                refine .gF ?_
                refine .gF ?_
                refine .gF ?_
                refine .gF ?_
                refine .gF ?_
                refine .gT ?_
                refine .pickF ?_
                refine .gT ?_
                refine .move ?_
                refine .gT ?_
                refine .move ?_
                refine .gT ?_
                refine .geq ?_
                refine .gT ?_
                refine .move ?_
                refine .cast (d:=114) (u:=.bool true) rfl (cB9 (by first | (exact decide_eq_true (by omega)) | (exact decide_eq_false (by omega)) | (simp;done) | (simp;omega) | omega)) ?_
                refine .gT ?_
                refine .move ?_
                refine .gT ?_
                refine .move ?_
                refine .gT ?_
                refine .sub ?_
                refine .gT ?_
                refine .move ?_
                refine .gT ?_
                refine .gtr ?_
                refine .gT ?_
                refine .pickT ?_
                refine .gT ?_
                refine .pickF ?_
                refine .pickT ?_
                refine .z ?_
                refine .condF rfl (cB9 (by first | (exact decide_eq_true (by omega)) | (exact decide_eq_false (by omega)) | (simp;done) | (simp;omega) | omega)) ?_
                refine .exit (.thenExit (.thenExit (.blockExit (?_))))
                refine .next (.sr (.move (.move ?_)))
                refine .eqi ?_
                refine .move ?_
                refine .cast (d:=128) (u:=.bool true) rfl (cB9 (by first | (exact decide_eq_true (by omega)) | (exact decide_eq_false (by omega)) | (simp;done) | (simp;omega) | omega)) ?_
                refine .gT ?_
                refine .move ?_
                refine .gT ?_
                refine .call (hc:=Tryz.call22) (sp:=ij (ss:=ownT aw u (m - u+1)) (post:=ownT aw (u+1) (m - u)) (y:=(u,[repB ((u:Nat):Int) 1 (aw u)])) (fy _ _ _)) (h:=?_)
                rintro _ _ ⟨rfl,rfl⟩
                refine .gT ?_
                refine .move ?_
                refine .gT ?_
                refine .eqi ?_
                refine .pickT ?_
                refine .move ?_
                refine .cast (d:=134) (u:=.bool true) rfl (cB9 (by first | (exact decide_eq_true (by omega)) | (exact decide_eq_false (by omega)) | (simp;done) | (simp;omega) | omega)) ?_
                refine .gT ?_
                refine .move ?_
                refine .gT ?_
                refine .call (hc:=Tryz.call23) (sp:=iv (ss:=ownT aw u (m - u+1)) (pre:=ownT aw u (m - u)) (y:=(u+(m - u),[repB (((u+(m - u):Nat)):Int) 1 (aw (u+(m - u)))])) (fz _ _ _) (by show 1<=_;decide)) (h:=?_)
                rintro _ _ ⟨rfl,rfl⟩
                rw [repB_next]
                refine .gT ?_
                refine .move ?_
                refine .gT ?_
                refine .eqi ?_
                refine .pickT ?_
                refine .move ?_
                refine .cast (d:=140) (u:=.bool true) rfl (cB9 (by first | (exact decide_eq_true (by omega)) | (exact decide_eq_false (by omega)) | (simp;done) | (simp;omega) | omega)) ?_
                refine .gT ?_
                refine .call (hc:=Tryz.call17) (sp:=dx) (h:=?_)
                rintro _ _ ⟨rfl,rfl⟩
                refine .pickT ?_
                refine .assign (.z ?_)
                refine .ret (?_)
                exact .ret1 (h1:=.tmp (t:=8) rfl) ⟨_,⟨rfl,rfl⟩,Am.auto⟩
              ·have hxe:u=k:=by
                refine Classical.byContradiction fun hx=>?_
                have hx2:=hall u (by omega)
                rw [hsb,hsa,show (aw u).time=((u:Nat):Int) from rfl] at hx2
                omega
               subst hxe
               refine .cast (d:=98) (u:=.bool true) rfl (cB9 (by first | (exact decide_eq_true (by omega)) | (exact decide_eq_false (by omega)) | (simp;done) | (simp;omega) | omega)) ?_
               refine .gT ?_
               refine .move ?_
               refine .gT ?_
               refine .geq ?_
               refine .gT ?_
               refine .move ?_
               refine .cast (d:=101) (u:=.bool false) rfl (cB9 (by first | (exact decide_eq_true (by omega)) | (exact decide_eq_false (by omega)) | (simp;done) | (simp;omega) | omega)) ?_
               refine .gF ?_
               refine .gF ?_
               refine .gF ?_
               refine .gF ?_
               refine .gF ?_
               refine .gF ?_
               refine .gF ?_
               refine .gF ?_
               refine .gT ?_
               refine .pickF ?_
               refine .gT ?_
               refine .move ?_
               refine .gT ?_
               refine .move ?_
               refine .gT ?_
               refine .geq ?_
               refine .gT ?_
               refine .move ?_
               refine .cast (d:=114) (u:=.bool false) rfl (cB9 (by first | (exact decide_eq_true (by omega)) | (exact decide_eq_false (by omega)) | (simp;done) | (simp;omega) | omega)) ?_
               refine .gF ?_
               refine .gF ?_
               refine .gF ?_
               refine .gF ?_
               refine .gF ?_
               refine .gT ?_
               refine .pickF ?_
               refine .gT ?_
               refine .pickF ?_
               refine .pickT ?_
               refine .z ?_
               refine .condF rfl rfl ?_
               refine .exit (.thenExit (.thenExit (.blockExit (?_))))
               refine .next (.sr (.move (.move ?_)))
               refine .eqi ?_
               refine .move ?_
               refine .cast (d:=128) (u:=.bool true) rfl (cB9 (by first | (exact decide_eq_true (by omega)) | (exact decide_eq_false (by omega)) | (simp;done) | (simp;omega) | omega)) ?_
               refine .gT ?_
               refine .move ?_
               refine .gT ?_
               refine .call (hc:=Tryz.call22) (sp:=ij (ss:=ownT aw u (m - u+1)) (post:=ownT aw (u+1) (m - u)) (y:=(u,[repB ((u:Nat):Int) 1 (aw u)])) (fy _ _ _)) (h:=?_)
               rintro _ _ ⟨rfl,rfl⟩
               refine .gT ?_
               refine .move ?_
               refine .gT ?_
               refine .eqi ?_
               refine .pickT ?_
               refine .move ?_
               refine .cast (d:=134) (u:=.bool true) rfl (cB9 (by first | (exact decide_eq_true (by omega)) | (exact decide_eq_false (by omega)) | (simp;done) | (simp;omega) | omega)) ?_
               refine .gT ?_
               refine .move ?_
               refine .gT ?_
               refine .call (hc:=Tryz.call23) (sp:=iv (ss:=ownT aw u (m - u+1)) (pre:=ownT aw u (m - u)) (y:=(u+(m - u),[repB (((u+(m - u):Nat)):Int) 1 (aw (u+(m - u)))])) (fz _ _ _) (by show 1<=_;decide)) (h:=?_)
               rintro _ _ ⟨rfl,rfl⟩
               rw [repB_next]
               refine .gT ?_
               refine .move ?_
               refine .gT ?_
               refine .eqi ?_
               refine .pickT ?_
               refine .move ?_
               refine .cast (d:=140) (u:=.bool true) rfl (cB9 (by first | (exact decide_eq_true (by omega)) | (exact decide_eq_false (by omega)) | (simp;done) | (simp;omega) | omega)) ?_
               refine .gT ?_
               refine .call (hc:=Tryz.call17) (sp:=dx) (h:=?_)
               rintro _ _ ⟨rfl,rfl⟩
               refine .pickT ?_
               refine .assign (.z ?_)
               refine .ret (?_)
               exact .ret1 (h1:=.tmp (t:=8) rfl) ⟨_,⟨rfl,rfl⟩,Am.auto⟩
            ·have hxe:u=k:=by
              refine Classical.byContradiction fun hx=>?_
              have hx2:=hall u (by omega)
              rw [hsb,hsa,show (aw u).time=((u:Nat):Int) from rfl] at hx2
              omega
             subst hxe
             refine .cast (d:=98) (u:=.bool false) rfl (cB9 (by first | (exact decide_eq_true (by omega)) | (exact decide_eq_false (by omega)) | (simp;done) | (simp;omega) | omega)) ?_
             refine .gF ?_
             refine .gF ?_
             refine .gF ?_
             refine .gU ?_
             refine .gU ?_
             refine .gU ?_
             refine .gU ?_
             refine .gU ?_
             refine .gU ?_
             refine .gU ?_
             refine .gU ?_
             refine .gF ?_
             refine .gF ?_
             refine .gU ?_
             refine .gU ?_
             refine .gU ?_
             refine .gU ?_
             refine .gU ?_
             refine .gU ?_
             refine .gU ?_
             refine .gU ?_
             refine .gU ?_
             refine .gF ?_
             refine .pickF ?_
             refine .z ?_
             refine .condF rfl rfl ?_
             refine .exit (.thenExit (.thenExit (.blockExit (?_))))
             refine .next (.sr (.move (.move ?_)))
             refine .eqi ?_
             refine .move ?_
             refine .cast (d:=128) (u:=.bool true) rfl (cB9 (by first | (exact decide_eq_true (by omega)) | (exact decide_eq_false (by omega)) | (simp;done) | (simp;omega) | omega)) ?_
             refine .gT ?_
             refine .move ?_
             refine .gT ?_
             refine .call (hc:=Tryz.call22) (sp:=ij (ss:=ownT aw u (m - u+1)) (post:=ownT aw (u+1) (m - u)) (y:=(u,[repB ((u:Nat):Int) 1 (aw u)])) (fy _ _ _)) (h:=?_)
             rintro _ _ ⟨rfl,rfl⟩
             refine .gT ?_
             refine .move ?_
             refine .gT ?_
             refine .eqi ?_
             refine .pickT ?_
             refine .move ?_
             refine .cast (d:=134) (u:=.bool true) rfl (cB9 (by first | (exact decide_eq_true (by omega)) | (exact decide_eq_false (by omega)) | (simp;done) | (simp;omega) | omega)) ?_
             refine .gT ?_
             refine .move ?_
             refine .gT ?_
             refine .call (hc:=Tryz.call23) (sp:=iv (ss:=ownT aw u (m - u+1)) (pre:=ownT aw u (m - u)) (y:=(u+(m - u),[repB (((u+(m - u):Nat)):Int) 1 (aw (u+(m - u)))])) (fz _ _ _) (by show 1<=_;decide)) (h:=?_)
             rintro _ _ ⟨rfl,rfl⟩
             rw [repB_next]
             refine .gT ?_
             refine .move ?_
             refine .gT ?_
             refine .eqi ?_
             refine .pickT ?_
             refine .move ?_
             refine .cast (d:=140) (u:=.bool true) rfl (cB9 (by first | (exact decide_eq_true (by omega)) | (exact decide_eq_false (by omega)) | (simp;done) | (simp;omega) | omega)) ?_
             refine .gT ?_
             refine .call (hc:=Tryz.call17) (sp:=dx) (h:=?_)
             rintro _ _ ⟨rfl,rfl⟩
             refine .pickT ?_
             refine .assign (.z ?_)
             refine .ret (?_)
             exact .ret1 (h1:=.tmp (t:=8) rfl) ⟨_,⟨rfl,rfl⟩,Am.auto⟩
           ·have hkt:=ownGo_iff.1 hgo
            refine .move ?_
            refine .extract ?_
            refine .extract ?_
            refine .assign (.assign (.z (.seq (.sr (.move ?_)))))
            refine .nei ?_
            refine .z ?_
            refine .condF rfl rfl ?_
            refine .skip (.next (.seq (.sr (.move ?_))))
            refine .not ?_
            refine .z ?_
            refine .condF rfl rfl ?_
            refine .skip (.next (.region (.move ?_)))
            refine .add ?_
            refine .assign (.nil (.blockNormal (.next (.region (.move ?_)))))
            refine .add ?_
            refine .assign (.nil ?_)
            refine .to (A:=PT pp f [112] st (dp++[x]) (ownT aw (k+1) (m - k))) (A':=PT pp f [112] st (dp++[x]) (ownT aw (k+1) (m+1 - (k+1)))) (fun h hh=>by rw [show m+1 - (k+1)=m - k by omega];exact hh) ?_
            refine .to (A:=DRF f (pE 1500 250) [112] (m+1+1) (ownT aw (k+1) (m - k))) (A':=DRF f (pE 1500 250) [112] (m+1+1) (ownT aw (k+1) (m+1 - (k+1)))) (fun h hh=>by rw [show m+1 - (k+1)=m - k by omega];exact hh) ?_
            exact .back (k+1,dp++[x]) ⟨by show k+1 < m+1;omega,fun j hj=>if h:j < k then hall j h else (by rw [show j=k by omega];exact hkt)⟩ (show m+1 - (k+1) < m+1 - k by omega)
end Go.Proofs.YtddpknegneihbaaGreatDoor
end
