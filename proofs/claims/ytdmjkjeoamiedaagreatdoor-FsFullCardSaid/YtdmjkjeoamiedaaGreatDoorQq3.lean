/- A part of the proof of lawFsFull: texts of this work put together. -/
import Derived.Test.YtdmjkjeoamiedaaGreatDoorQq2
import Derived.KernelRfl
set_option linter.unusedVariables false
set_option linter.unusedSimpArgs false
set_option linter.unusedSectionVars false
section
namespace Go.Proofs.YtdmjkjeoamiedaaGreatDoor
open Go
theorem bdPlan (a b c:Int):BuildOk Tryz.prog 199 [(0,.int .i64 a),(1,.int .i64 b),(6,.int .i64 c)] #[.int .i64 a,.int .i64 b,.int .i64 0,.int .i64 0,.int .i64 0,.int .i64 0,.int .i64 c]:=fun w=>by kernel_rfl
theorem bdLa (b o:Nat) (m:Int):BuildOk Tryz.prog 293 [(0,.pointer (some ⟨b,o,none⟩)),(1,.int .i64 m)] #[.pointer (some ⟨b,o,none⟩),.int .i64 m]:=fun w=>by kernel_rfl
theorem bsLa (b o1 o2 o3 o4:Nat) (m1 m2 m3 m4:Int):BuildSOk Tryz.prog 294 4 [(0,.agg #[.pointer (some ⟨b,o1,none⟩),.int .i64 m1]),(1,.agg #[.pointer (some ⟨b,o2,none⟩),.int .i64 m2]),(2,.agg #[.pointer (some ⟨b,o3,none⟩),.int .i64 m3]),(3,.agg #[.pointer (some ⟨b,o4,none⟩),.int .i64 m4])] 293
 #[.pointer (some ⟨b,o1,none⟩),.int .i64 m1,.pointer (some ⟨b,o2,none⟩),.int .i64 m2,.pointer (some ⟨b,o3,none⟩),.int .i64 m3,.pointer (some ⟨b,o4,none⟩),.int .i64 m4]:=fun w=>by kernel_rfl
structure PlIs (p:Pl):Prop where
 n2:p.n<=65536
 i1:1<=p.ino
 i2:p.ino<=4096
 im:p.im=246
 bm:p.bm=246+(p.ino+4095) / 4096
 m1:p.bm+1<=p.tb
 da:p.da=p.tb+(p.ino+7) / 8
 dc:p.da+p.dc=p.n
 d1:1<=p.dc
 enough:p.dc<=4096 * (p.tb - p.bm)
 least:p.tb - p.bm=1 ∨ 4096 * (p.tb - p.bm - 1) < p.dc+1
theorem PlIs.one {p q:Pl} (h:PlIs p) (k:PlIs q) (hn:p.n=q.n) (hi:p.ino=q.ino):p=q:=by
 obtain ⟨n,ino,im,bm,tb,da,dc⟩:=p
 obtain ⟨n',ino',im',bm',tb',da',dc'⟩:=q
 have h1:=h.im;have h2:=h.bm;have h3:=h.m1;have h4:=h.da;have h5:=h.dc;have h6:=h.enough;have h7:=h.least
 have k1:=k.im;have k2:=k.bm;have k3:=k.m1;have k4:=k.da;have k5:=k.dc;have k6:=k.enough;have k7:=k.least
 simp only at hn hi h1 h2 h3 h4 h5 h6 h7 k1 k2 k3 k4 k5 k6 k7
 subst hn
 subst hi
 have e1:bm=bm':=by omega
 subst e1
 have e2:tb=tb':=by omega
 subst e2
 have e3:da=da':=by omega
 have e4:dc=dc':=by omega
 have e5:im=im':=by omega
 subst e3;subst e4;subst e5
 rfl
theorem PlIs.ok {p:Pl} (h:PlIs p):PlOk p:=by
 have h1:=h.im;have h2:=h.bm;have h3:=h.m1;have h4:=h.da;have h5:=h.dc;have h6:=h.enough;have h7:=h.least;have h8:=h.n2;have h9:=h.i1;have h10:=h.i2;have h11:=h.d1
 exact ⟨⟨by omega,by omega,by omega,by omega⟩,⟨by omega,by omega,by omega,by omega⟩,h9,h10,by omega,by omega,by omega,h5,h11⟩
theorem upA (k:Nat):((k:Int)+4096 - 1) / 4096=((k+4095) / 4096:Nat):=by omega
theorem upB (k:Nat):((k:Int)+8 - 1) / 8=((k+7) / 8:Nat):=by omega
theorem layUp {a b:Int} (ha:0<=a/\a<=100000) (hb:1<=b/\b<=100000):Spec Tryz.prog 199 #[.int .i64 a,.int .i64 b] [] fun F v M=>v=.int .i64 ((a+b - 1) / b)/\M=F:=by
 refine Spec.intro Tryz.func199 rfl rfl fun B F=>?_
 simp only [Tryz.ntmps199,List.cons_append,List.nil_append,env0,Nat.reduceAdd]
 refine .sr (.assign (.x (.move (.move ?_))))
 refine .add ?_
 refine .sub ?_
 refine .move ?_
 refine .quo ?_
 refine .assign (.z ?_)
 refine .ret (?_)
 exact .ret1 (h1:=.tmp (t:=4) rfl) ⟨_,⟨rfl,rfl⟩,Am.auto⟩
theorem layMake {p:Pl} (h:PlIs p):Spec Tryz.prog 129 #[.int .i64 (p.n:Int),.int .i64 (p.ino:Int)] [] fun F v M=>v=.tuple #[.agg p.cells,.int .i64 0]/\M=F:=by
 refine Spec.intro Tryz.func129 rfl rfl fun B F=>?_
 simp only [Tryz.ntmps129,List.cons_append,List.nil_append,env0,Nat.reduceAdd]
 have h1:=h.im
 have h2:=h.bm
 have h3:=h.m1
 have h4:=h.da
 have h5:=h.dc
 have h6:=h.enough
 have h7:=h.least
 have h8:=h.n2
 have h9:=h.i1
 have h10:=h.i2
 have h11:=h.d1
 refine .sr ?_
 refine .alloc z199 fun b4=>?_
 refine .assign (.z (.seq (.sr (.move ?_))))
 refine .lss ?_
 refine .move ?_
 refine .cast (d:=16) (u:=.bool false) rfl (congrArg Value.bool (by first|simp;done|simp;omega|omega)) ?_
 refine .gT ?_
 refine .move ?_
 refine .gT ?_
 refine .gtr ?_
 refine .pickF ?_
 refine .move ?_
 refine .cast (d:=20) (u:=.bool false) rfl (congrArg Value.bool (by first|simp;done|simp;omega|omega)) ?_
 refine .gT ?_
 refine .move ?_
 refine .gT ?_
 refine .lss ?_
 refine .pickF ?_
 refine .move ?_
 refine .cast (d:=24) (u:=.bool false) rfl (congrArg Value.bool (by first|simp;done|simp;omega|omega)) ?_
 refine .gT ?_
 refine .move ?_
 refine .gT ?_
 refine .gtr ?_
 refine .pickF ?_
 refine .z ?_
 refine .condF rfl (congrArg Value.bool (by first|simp;done|simp;omega|omega)) ?_
 refine .skip (.next (.sr (.move ?_)))
 refine .call (hc:=Tryz.call199) (sp:=layUp (by omega) (by omega)) (h:=?_)
 rintro _ _ ⟨rfl,rfl⟩
 refine .move ?_
 refine .call (hc:=Tryz.call199) (sp:=layUp (by omega) (by omega)) (h:=?_)
 rintro _ _ ⟨rfl,rfl⟩
 refine .assign ?_
 refine .cast (d:=6) (u:=.int .i64 (((p.ino+4095) / 4096:Nat):Int)) rfl (congrArg (Value.int .i64) (upA _)) ?_
 refine .assign ?_
 refine .cast (d:=7) (u:=.int .i64 (((p.ino+7) / 8:Nat):Int)) rfl (congrArg (Value.int .i64) (upB _)) ?_
 refine .x (.move ?_)
 refine .sub ?_
 refine .move ?_
 refine .sub ?_
 refine .move ?_
 refine .sub ?_
 refine .assign ?_
 refine .cast (d:=8) (u:=.int .i64 ((p.dc:Int)+(p.tb - p.bm))) rfl (congrArg (Value.int .i64) (by omega)) ?_
 refine .x (.assign (.z (.seq (.block ?_))))
 refine .loopA (σ:=Nat) (fun m=>[(0,.int .i64 (p.n:Int)),(1,.int .i64 (p.ino:Int)),(4,.pointer (some ⟨b4,0,none⟩)),(6,.int .i64 (((p.ino+4095) / 4096:Nat):Int)),(7,.int .i64 (((p.ino+7) / 8:Nat):Int)),(8,.int .i64 ((p.dc:Int)+(p.tb - p.bm))),(9,.int .i64 (m:Int))]) (fun m=>pt b4 (.cells #[.int .i64 0,.int .i64 0,.int .i64 0,.int .i64 0,.int .i64 0,.int .i64 0,.int .i64 0] 199 (0,0)) :: F) (fun m=>1<=m/\m<=p.tb - p.bm) (fun m=>p.tb - p.bm - m) 1 (by omega) ?_
 rintro m hm
 refine .seq (.sr (.move ?_))
 refine .mul ?_
 refine .move (.move ?_)
 refine .sub ?_
 refine .lss ?_
 refine .z ?_
 refine .cond rfl (fun hb=>?_) (fun hb=>?_)
 ·have hlt:4096 * (m:Int) < (p.dc:Int)+(p.tb - p.bm) - m:=of_decide_eq_true hb
  refine .skip (.next (.block (.region (.move ?_))))
  refine .add ?_
  refine .assign (.nil (.blockNormal ?_))
  refine .cast (d:=9) (u:=.int .i64 ((m+1:Nat):Int)) rfl (congrArg (Value.int .i64) (by omega)) ?_
  exact .back (m+1) (by omega) (by omega)
 ·have hge:¬ 4096 * (m:Int) < (p.dc:Int)+(p.tb - p.bm) - m:=of_decide_eq_false hb
  have hmm:m=p.tb - p.bm:=by omega
  refine .exit (.thenExit (.thenExit (.blockExit (?_))))
  refine .next (.sr (.move (.move (.move (.move ?_)))))
  refine .sub ?_
  refine .cast (d:=51) (u:=.int .i64 (p.dc:Int)) rfl (congrArg (Value.int .i64) (by omega)) ?_
  refine .build ?_ (bdPlan _ _ _)
  refine .alloc z199 fun b10=>?_
  refine .stV ?_ agg199
  refine .z (.seq (.sr ?_))
  refine .fa ?_ fo199_6
  refine .ld ?_ sc3
  refine .lss ?_
  refine .z ?_
  refine .condF rfl (congrArg Value.bool (by first|simp;done|simp;omega|omega)) ?_
  refine .skip (.next (.sr (.assign (.z (.seq (.sr ?_))))))
  refine .fa ?_ fo199_2
  refine .move ?_
  refine .build ?_ (bdLa _ _ _)
  refine .fa ?_ fo199_3
  refine .move ?_
  refine .build ?_ (bdLa _ _ _)
  refine .fa ?_ fo199_4
  refine .move ?_
  refine .build ?_ (bdLa _ _ _)
  refine .fa ?_ fo199_5
  refine .fa ?_ fo199_6
  refine .ld ?_ sc3
  refine .build ?_ (bdLa _ _ _)
  refine .buildS (fun b70=>?_) (bsLa _ _ _ _ _ _ _ _ _)
  refine .lenS ?_ sl294
  refine .move (.z (.block ?_))
  refine .loopN 5 (RC.succ ?_)
  refine .sr ?_
  refine .lss ?_
  refine .z (.seq ?_)
  refine .condT rfl (congrArg Value.bool (by first|simp;done|simp;omega|omega)) ?_
  refine .skip (.next (.seq (.block (.sr ?_))))
  refine .idx ?_ so294
  refine .ldAR (i:=0) (us:=[.pointer (some ⟨b10,2,none⟩),.int .i64 (((p.ino+4095) / 4096:Nat):Int)]) ?_ agg293 Reads.pt rfl (Nat.le_of_ble_eq_true rfl) (R:=pt b70 (.cells #[.pointer (some ⟨b10,2,none⟩),.int .i64 (((p.ino+4095) / 4096:Nat):Int),.pointer (some ⟨b10,3,none⟩),.int .i64 (m:Int),.pointer (some ⟨b10,4,none⟩),.int .i64 (((p.ino+7) / 8:Nat):Int),.pointer (some ⟨b10,5,none⟩),.int .i64 (p.dc:Int)] 293 (0,0)))
  refine .alloc z293 fun b13_0=>?_
  refine .stV ?_ agg293
  refine .x ?_
  refine .fa ?_ fo293_0
  refine .ld ?_ sc291
  refine .move ?_
  refine .nilCheck ?_
  refine .st ?_ sc3
  refine .y (.move ?_)
  refine .fa ?_ fo293_1
  refine .ld ?_ sc3
  refine .add ?_
  refine .assign (.nil (.blockNormal (.next (.region ?_))))
  refine .add ?_
  refine .move (.nil ?_)
  refine .again (RC.succ ?_)
  refine .sr ?_
  refine .lss ?_
  refine .z (.seq ?_)
  refine .condT rfl (congrArg Value.bool (by first|simp;done|simp;omega|omega)) ?_
  refine .skip (.next (.seq (.block (.sr ?_))))
  refine .idx ?_ so294
  refine .ldAR (i:=2) (us:=[.pointer (some ⟨b10,3,none⟩),.int .i64 (m:Int)]) ?_ agg293 Reads.pt rfl (Nat.le_of_ble_eq_true rfl) (R:=pt b70 (.cells #[.pointer (some ⟨b10,2,none⟩),.int .i64 (((p.ino+4095) / 4096:Nat):Int),.pointer (some ⟨b10,3,none⟩),.int .i64 (m:Int),.pointer (some ⟨b10,4,none⟩),.int .i64 (((p.ino+7) / 8:Nat):Int),.pointer (some ⟨b10,5,none⟩),.int .i64 (p.dc:Int)] 293 (0,0)))
  refine .alloc z293 fun b13_1=>?_
  refine .stV ?_ agg293
  refine .x ?_
  refine .fa ?_ fo293_0
  refine .ld ?_ sc291
  refine .move ?_
  refine .nilCheck ?_
  refine .st ?_ sc3
  refine .y (.move ?_)
  refine .fa ?_ fo293_1
  refine .ld ?_ sc3
  refine .add ?_
  refine .assign (.nil (.blockNormal (.next (.region ?_))))
  refine .add ?_
  refine .move (.nil ?_)
  refine .again (RC.succ ?_)
  refine .sr ?_
  refine .lss ?_
  refine .z (.seq ?_)
  refine .condT rfl (congrArg Value.bool (by first|simp;done|simp;omega|omega)) ?_
  refine .skip (.next (.seq (.block (.sr ?_))))
  refine .idx ?_ so294
  refine .ldAR (i:=4) (us:=[.pointer (some ⟨b10,4,none⟩),.int .i64 (((p.ino+7) / 8:Nat):Int)]) ?_ agg293 Reads.pt rfl (Nat.le_of_ble_eq_true rfl) (R:=pt b70 (.cells #[.pointer (some ⟨b10,2,none⟩),.int .i64 (((p.ino+4095) / 4096:Nat):Int),.pointer (some ⟨b10,3,none⟩),.int .i64 (m:Int),.pointer (some ⟨b10,4,none⟩),.int .i64 (((p.ino+7) / 8:Nat):Int),.pointer (some ⟨b10,5,none⟩),.int .i64 (p.dc:Int)] 293 (0,0)))
  refine .alloc z293 fun b13_2=>?_
  refine .stV ?_ agg293
  refine .x ?_
  refine .fa ?_ fo293_0
  refine .ld ?_ sc291
  refine .move ?_
  refine .nilCheck ?_
  refine .st ?_ sc3
  refine .y (.move ?_)
  refine .fa ?_ fo293_1
  refine .ld ?_ sc3
  refine .add ?_
  refine .assign (.nil (.blockNormal (.next (.region ?_))))
  refine .add ?_
  refine .move (.nil ?_)
  refine .again (RC.succ ?_)
  refine .sr ?_
  refine .lss ?_
  refine .z (.seq ?_)
  refine .condT rfl (congrArg Value.bool (by first|simp;done|simp;omega|omega)) ?_
  refine .skip (.next (.seq (.block (.sr ?_))))
  refine .idx ?_ so294
  refine .ldAR (i:=6) (us:=[.pointer (some ⟨b10,5,none⟩),.int .i64 (p.dc:Int)]) ?_ agg293 Reads.pt rfl (Nat.le_of_ble_eq_true rfl) (R:=pt b70 (.cells #[.pointer (some ⟨b10,2,none⟩),.int .i64 (((p.ino+4095) / 4096:Nat):Int),.pointer (some ⟨b10,3,none⟩),.int .i64 (m:Int),.pointer (some ⟨b10,4,none⟩),.int .i64 (((p.ino+7) / 8:Nat):Int),.pointer (some ⟨b10,5,none⟩),.int .i64 (p.dc:Int)] 293 (0,0)))
  refine .alloc z293 fun b13_3=>?_
  refine .stV ?_ agg293
  refine .x ?_
  refine .fa ?_ fo293_0
  refine .ld ?_ sc291
  refine .move ?_
  refine .nilCheck ?_
  refine .st ?_ sc3
  refine .y (.move ?_)
  refine .fa ?_ fo293_1
  refine .ld ?_ sc3
  refine .add ?_
  refine .assign (.nil (.blockNormal (.next (.region ?_))))
  refine .add ?_
  refine .move (.nil ?_)
  refine .again (RC.succ ?_)
  refine .sr ?_
  refine .lss ?_
  refine .z (.seq ?_)
  refine .condF rfl (congrArg Value.bool (by first|simp;done|simp;omega|omega)) ?_
  refine .exit (.thenExit (.thenExit (.blockExit (?_))))
  refine .next (.sr ?_)
  refine .ldA ?_ agg199
  refine .stV ?_ agg199
  refine .assign (.z ?_)
  refine .ret (?_)
  have hce:(#[.int .i64 (p.n:Int),.int .i64 (p.ino:Int),.int .i64 246,.int .i64 (246+(((p.ino+4095) / 4096:Nat):Int)),.int .i64 (246+(((p.ino+4095) / 4096:Nat):Int)+(m:Int)),.int .i64 (246+(((p.ino+4095) / 4096:Nat):Int)+(m:Int)+(((p.ino+7) / 8:Nat):Int)),.int .i64 (p.dc:Int)]:Array Value)=p.cells:=by
   unfold Pl.cells
   rw [show (p.im:Int)=246 from by omega,show (p.bm:Int)=246+(((p.ino+4095) / 4096:Nat):Int) from by omega,show (p.tb:Int)=246+(((p.ino+4095) / 4096:Nat):Int)+(m:Int) from by omega,show (p.da:Int)=246+(((p.ino+4095) / 4096:Nat):Int)+(m:Int)+(((p.ino+7) / 8:Nat):Int) from by omega]
  refine .to (A:=pt b4 (.cells #[.int .i64 (p.n:Int),.int .i64 (p.ino:Int),.int .i64 246,.int .i64 (246+(((p.ino+4095) / 4096:Nat):Int)),.int .i64 (246+(((p.ino+4095) / 4096:Nat):Int)+(m:Int)),.int .i64 (246+(((p.ino+4095) / 4096:Nat):Int)+(m:Int)+(((p.ino+7) / 8:Nat):Int)),.int .i64 (p.dc:Int)] 199 (0,0))) (A':=pt b4 (.cells p.cells 199 (0,0))) (fun h hh=>by rw [<- hce];exact hh) ?_
  exact .ret2 (h2:=.tmp (t:=5) rfl) ⟨_,⟨rfl,rfl⟩,Am.auto⟩
theorem bdPlan0:BuildOk Tryz.prog 199 [] #[.int .i64 0,.int .i64 0,.int .i64 0,.int .i64 0,.int .i64 0,.int .i64 0,.int .i64 0]:=fun w=>by kernel_rfl
theorem bdPlan3 (a b c:Int):BuildOk Tryz.prog 199 [(0,.int .i64 a),(1,.int .i64 b),(2,.int .i64 c)] #[.int .i64 a,.int .i64 b,.int .i64 c,.int .i64 0,.int .i64 0,.int .i64 0,.int .i64 0]:=fun w=>by kernel_rfl
def mkPl (n ino m:Nat):Pl:=⟨n,ino,246,246+(ino+4095) / 4096,246+(ino+4095) / 4096+m,246+(ino+4095) / 4096+m+(ino+7) / 8,n - (246+(ino+4095) / 4096+m+(ino+7) / 8)⟩
theorem mkPl_is {n ino m:Nat} (hn:n<=65536) (h1:1<=ino) (h2:ino<=4096) (hm:1<=m) (hd:246+(ino+4095) / 4096+m+(ino+7) / 8+1<=n) (he:n<=246+(ino+4095) / 4096+m+(ino+7) / 8+4096 * m)
  (hl:m=1 ∨ 246+(ino+4095) / 4096+m+(ino+7) / 8+4096 * (m - 1) < n+1):PlIs (mkPl n ino m):=by
 refine ⟨hn,h1,h2,rfl,rfl,?_,rfl,?_,?_,?_,?_⟩<;>simp only [mkPl]<;>omega
def zeroPl:Array Value:=#[.int .i64 0,.int .i64 0,.int .i64 0,.int .i64 0,.int .i64 0,.int .i64 0,.int .i64 0]
theorem upA2 (k:Nat):((k:Int)+4095) / 4096=((k+4095) / 4096:Nat):=by omega
theorem upB2 (k:Nat):((k:Int)+7) / 8=((k+7) / 8:Nat):=by omega
theorem refMakeS {n ino:Nat} (hn1:1<=n) (hn2:n<=65536) (h1:1<=ino) (h2:ino<=4096):Spec Tryz.prog 116 #[.int .i64 (n:Int),.int .i64 (ino:Int)] [] fun F v M=>((∃ p,PlIs p/\p.n=n/\p.ino=ino/\v=.tuple #[.agg p.cells,.int .i64 0]) ∨ (v=.tuple #[.agg zeroPl,.int .i64 3]/\∀ p,PlIs p->p.n=n->p.ino=ino->False))/\M=F:=by
 refine Spec.intro Tryz.func116 rfl rfl fun B F=>?_
 simp only [Tryz.ntmps116,List.cons_append,List.nil_append,env0,Nat.reduceAdd]
 refine .sr ?_
 refine .alloc z199 fun b4=>?_
 refine .assign (.z (.seq (.sr (.move ?_))))
 refine .lss ?_
 refine .move ?_
 refine .cast (d:=11) (u:=.bool false) rfl (congrArg Value.bool (by first|simp;done|simp;omega|omega)) ?_
 refine .gT ?_
 refine .move ?_
 refine .gT ?_
 refine .gtr ?_
 refine .pickF ?_
 refine .move ?_
 refine .cast (d:=15) (u:=.bool false) rfl (congrArg Value.bool (by first|simp;done|simp;omega|omega)) ?_
 refine .gT ?_
 refine .move ?_
 refine .gT ?_
 refine .lss ?_
 refine .pickF ?_
 refine .move ?_
 refine .cast (d:=19) (u:=.bool false) rfl (congrArg Value.bool (by first|simp;done|simp;omega|omega)) ?_
 refine .gT ?_
 refine .move ?_
 refine .gT ?_
 refine .gtr ?_
 refine .pickF ?_
 refine .z ?_
 refine .condF rfl (congrArg Value.bool (by first|simp;done|simp;omega|omega)) ?_
 refine .skip (.next (.sr (.move (.move ?_))))
 refine .build ?_ (bdPlan3 _ _ _)
 refine .alloc z199 fun b6=>?_
 refine .stV ?_ agg199
 refine .x ?_
 refine .fa ?_ fo199_2
 refine .ld ?_ sc3
 refine .move ?_
 refine .add ?_
 refine .quo ?_
 refine .cast (d:=31) (u:=.int .i64 (((ino+4095) / 4096:Nat):Int)) rfl (congrArg (Value.int .i64) (upA2 _)) ?_
 refine .add ?_
 refine .fa ?_ fo199_3
 refine .st ?_ sc3
 refine .x (.move ?_)
 refine .add ?_
 refine .quo ?_
 refine .cast (d:=36) (u:=.int .i64 (((ino+7) / 8:Nat):Int)) rfl (congrArg (Value.int .i64) (upB2 _)) ?_
 refine .assign (.x (.assign (.z (.seq (.block ?_)))))
 refine .loopA (σ:=Nat) (fun m=>[(0,.int .i64 (n:Int)),(1,.int .i64 (ino:Int)),(4,.pointer (some ⟨b4,0,none⟩)),(6,.pointer (some ⟨b6,0,none⟩)),(7,.int .i64 (((ino+7) / 8:Nat):Int)),(8,.int .i64 (m:Int))]) (fun m=>pt b4 (.cells zeroPl 199 (0,0)) :: pt b6 (.cells #[.int .i64 (n:Int),.int .i64 (ino:Int),.int .i64 246,.int .i64 (246+(((ino+4095) / 4096:Nat):Int)),.int .i64 0,.int .i64 0,.int .i64 0] 199 (0,0)) :: F) (fun m=>1<=m/\m<=65537/\(m=1 ∨ 246+(ino+4095) / 4096+m+(ino+7) / 8+4096 * (m - 1) < n+1)) (fun m=>65537 - m) 1 (by omega) ?_
 rintro m hm
 refine .seq (.sr (.move ?_))
 refine .mul ?_
 refine .move ?_
 refine .fa ?_ fo199_3
 refine .ld ?_ sc3
 refine .sub ?_
 refine .move ?_
 refine .sub ?_
 refine .move ?_
 refine .sub ?_
 refine .lss ?_
 refine .z ?_
 refine .cond rfl (fun hb=>?_) (fun hb=>?_)
 ·have hlt:4096 * (m:Int) < ((n:Int) - (246+(((ino+4095) / 4096:Nat):Int)) - (m:Int) - (((ino+7) / 8:Nat):Int)):=of_decide_eq_true hb
  refine .skip (.next (.block (.region (.move ?_))))
  refine .add ?_
  refine .assign (.nil (.blockNormal ?_))
  refine .cast (d:=8) (u:=.int .i64 ((m+1:Nat):Int)) rfl (congrArg (Value.int .i64) (by omega)) ?_
  exact .back (m+1) ⟨by omega,by omega,.inr (by omega)⟩ (by omega)
 ·have hge:¬ 4096 * (m:Int) < ((n:Int) - (246+(((ino+4095) / 4096:Nat):Int)) - (m:Int) - (((ino+7) / 8:Nat):Int)):=of_decide_eq_false hb
  obtain ⟨hm1,hm2,hm3⟩:=hm
  by_cases hd:246+(ino+4095) / 4096+m+(ino+7) / 8+1<=n
  ·refine .exit (.thenExit (.thenExit (.blockExit (?_))))
   refine .next (.sr ?_)
   refine .fa ?_ fo199_3
   refine .ld ?_ sc3
   refine .move ?_
   refine .add ?_
   refine .fa ?_ fo199_4
   refine .st ?_ sc3
   refine .x ?_
   refine .fa ?_ fo199_4
   refine .ld ?_ sc3
   refine .move ?_
   refine .add ?_
   refine .fa ?_ fo199_5
   refine .st ?_ sc3
   refine .x (.move ?_)
   refine .fa ?_ fo199_5
   refine .ld ?_ sc3
   refine .sub ?_
   refine .fa ?_ fo199_6
   refine .st ?_ sc3
   refine .z (.seq (.sr ?_))
   refine .fa ?_ fo199_6
   refine .ld ?_ sc3
   refine .lss ?_
   refine .z ?_
   refine .condF rfl (congrArg Value.bool (by first|simp;done|simp;omega|omega)) ?_
   refine .skip (.next (.sr ?_))
   refine .ldA ?_ agg199
   refine .stV ?_ agg199
   refine .assign (.z ?_)
   refine .ret (?_)
   have hce:(#[.int .i64 (n:Int),.int .i64 (ino:Int),.int .i64 246,.int .i64 (246+(((ino+4095) / 4096:Nat):Int)),.int .i64 (246+(((ino+4095) / 4096:Nat):Int)+(m:Int)),.int .i64 (246+(((ino+4095) / 4096:Nat):Int)+(m:Int)+(((ino+7) / 8:Nat):Int)),.int .i64 ((n:Int) - (246+(((ino+4095) / 4096:Nat):Int)+(m:Int)+(((ino+7) / 8:Nat):Int)))]:Array Value)=(mkPl n ino m).cells:=by
    unfold Pl.cells mkPl
    simp only
    rw [show ((246+(ino+4095) / 4096:Nat):Int)=246+(((ino+4095) / 4096:Nat):Int) from by omega,show ((246+(ino+4095) / 4096+m:Nat):Int)=246+(((ino+4095) / 4096:Nat):Int)+(m:Int) from by omega,show ((246+(ino+4095) / 4096+m+(ino+7) / 8:Nat):Int)=246+(((ino+4095) / 4096:Nat):Int)+(m:Int)+(((ino+7) / 8:Nat):Int) from by omega,show ((n - (246+(ino+4095) / 4096+m+(ino+7) / 8):Nat):Int)=(n:Int) - (246+(((ino+4095) / 4096:Nat):Int)+(m:Int)+(((ino+7) / 8:Nat):Int)) from by omega]
    rfl
   refine .to (A:=pt b4 (.cells #[.int .i64 (n:Int),.int .i64 (ino:Int),.int .i64 246,.int .i64 (246+(((ino+4095) / 4096:Nat):Int)),.int .i64 (246+(((ino+4095) / 4096:Nat):Int)+(m:Int)),.int .i64 (246+(((ino+4095) / 4096:Nat):Int)+(m:Int)+(((ino+7) / 8:Nat):Int)),.int .i64 ((n:Int) - (246+(((ino+4095) / 4096:Nat):Int)+(m:Int)+(((ino+7) / 8:Nat):Int)))] 199 (0,0))) (A':=pt b4 (.cells (mkPl n ino m).cells 199 (0,0))) (fun h hh=>by rw [<- hce];exact hh) ?_
   exact .ret2 (h2:=.tmp (t:=5) rfl) ⟨_,⟨.inl ⟨mkPl n ino m,mkPl_is hn2 h1 h2 hm1 hd (by omega) (by omega),rfl,rfl,rfl⟩,rfl⟩,Am.auto⟩
  ·refine .exit (.thenExit (.thenExit (.blockExit (?_))))
   refine .next (.sr ?_)
   refine .fa ?_ fo199_3
   refine .ld ?_ sc3
   refine .move ?_
   refine .add ?_
   refine .fa ?_ fo199_4
   refine .st ?_ sc3
   refine .x ?_
   refine .fa ?_ fo199_4
   refine .ld ?_ sc3
   refine .move ?_
   refine .add ?_
   refine .fa ?_ fo199_5
   refine .st ?_ sc3
   refine .x (.move ?_)
   refine .fa ?_ fo199_5
   refine .ld ?_ sc3
   refine .sub ?_
   refine .fa ?_ fo199_6
   refine .st ?_ sc3
   refine .z (.seq (.sr ?_))
   refine .fa ?_ fo199_6
   refine .ld ?_ sc3
   refine .lss ?_
   refine .z ?_
   refine .condT rfl (congrArg Value.bool (by first|simp;done|simp;omega|omega)) ?_
   refine .sr ?_
   refine .build ?_ bdPlan0
   refine .stV ?_ agg199
   refine .assign (.z ?_)
   refine .ret (.thenRet (?_))
   have hnone:∀ p,PlIs p->p.n=n->p.ino=ino->False:=by
    intro q hq e1 e2
    have q2:=hq.bm;have q3:=hq.m1;have q4:=hq.da;have q5:=hq.dc;have q11:=hq.d1
    subst e1;subst e2
    omega
   exact .ret2 (h2:=.tmp (t:=5) rfl) ⟨_,⟨.inr ⟨rfl,hnone⟩,rfl⟩,Am.auto⟩
theorem putN_take (xs:Bytes) (p size:Nat) (big:Bool) (v:Nat) {k:Nat} (hk:k<=p):∀ i,(putN xs p size big v i).take k=xs.take k
 | 0=>rfl
 | i+1=>by
  rw [putN,List.take_set_of_le (by omega)]
  exact putN_take xs p size big v hk i
theorem laidN_take {ys:Bytes} (hy:ys.length=8) (nums:List Nat):∀ i,(laidN ys nums i).take 8=ys
 | 0=>by rw [laidN,List.take_append_of_le_length (by omega),List.take_of_length_le (by omega)]
 | i+1=>by
  rw [laidN,put,putN_take _ _ _ _ _ (by omega)]
  exact laidN_take hy nums i
def zeroD:Nat->Bytes:=fun _=>zeros
theorem clear_at (k:Nat) (i:Nat):clearH zeroD i k=zeros:=by
 induction i with
 | zero=>rfl
 | succ i ih=>show wr (clearH zeroD i) (slotAt i 0) zeros k=zeros;unfold wr;split;rfl;exact ih
theorem zeros_take:zeros.take 8=[0,0,0,0,0,0,0,0]:=by
 unfold zeros
 rw [List.take_replicate]
 rfl
theorem formatted0:(formatted zeroD 0).take 8=magicJ:=by
 unfold formatted
 show (laidB magicJ _).take 8=magicJ
 exact laidN_take (ys:=magicJ) rfl _ _
theorem formattedK {k:Nat} (hk:k≠0):formatted zeroD k=zeros:=by
 unfold formatted
 have hno:¬ (zeroD 0).take 8=magicJ:=by
  rw [show (zeroD 0).take 8=zeros.take 8 from rfl,zeros_take]
  decide
 rw [if_neg hno]
 show wr (clearH zeroD 4) 0 _ k=zeros
 unfold wr
 rw [if_neg hk]
 exact clear_at k 4
theorem formattedH (g i:Nat):NoHead g (formatted zeroD (slotAt i 0)):=by
 left
 rw [formattedK (by unfold slotAt;omega),zeros_take]
 decide
def freshV (p:Pl):Nat->Bytes:=fmtA p zeroD
theorem tb_zeros (k:Nat):tb zeros k=false:=by
 unfold tb zeros
 have:(List.replicate 512 (0:UInt8)).getD (k / 8) 0=0:=by
  rw [List.getD_eq_getElem?_getD,List.getElem?_replicate]
  split<;>rfl
 rw [this]
 exact Nat.zero_testBit _
theorem tb_one0 (k:Nat):tb one0 k=decide (k=0):=by
 unfold tb one0
 by_cases h:k / 8=0
 ·rw [h]
  have:(zeros.set 0 (1:UInt8)).getD 0 0=1:=by
   rw [List.getD_eq_getElem?_getD,List.getElem?_set_self (by rw [zeros_length];decide)]
   rfl
  rw [this]
  have hk:k < 8:=by omega
  rcases Nat.eq_zero_or_pos k with rfl | hp
  ·rfl
  ·rw [Nat.mod_eq_of_lt hk]
   have:(1:UInt8).toNat=2 ^ 0:=rfl
   rw [this,Nat.testBit_two_pow]
   congr 1
   rw [eq_iff_iff]
   constructor<;>intro h<;>omega
 ·have h2:(zeros.set 0 (1:UInt8)).getD (k / 8) 0=zeros.getD (k / 8) 0:=by
   rw [List.getD_eq_getElem?_getD,List.getElem?_set_ne (by omega),List.getD_eq_getElem?_getD]
  rw [h2,show (zeros.getD (k / 8) 0).toNat.testBit (k % 8)=tb zeros k from rfl,tb_zeros]
  symm
  exact decide_eq_false (by omega)
theorem fresh_bm {p:Pl} (h:PlIs p) {k:Nat} (hk:k < p.dc):dig (freshV p) p.bm k=false:=by
 have h2:=h.bm;have h3:=h.i1;have h4:=h.im
 unfold dig freshV fmtA
 rw [fmtV_at,if_pos (by omega)]
 unfold fmtZ
 rw [if_neg (by omega)]
 exact tb_zeros _
theorem fresh_im {p:Pl} (h:PlIs p) {k:Nat} (hk:k < p.ino):dig (freshV p) p.im k=decide (k=0):=by
 have h2:=h.bm;have h3:=h.i2;have h4:=h.im
 unfold dig freshV fmtA
 rw [fmtV_at,if_neg (by omega),fmtV_at,if_pos (by omega)]
 unfold fmtZ
 rw [if_pos ⟨rfl,rfl⟩,tb_one0]
 congr 1
 rw [eq_iff_iff]
 constructor<;>intro h<;>omega
def Len5 (V:Nat->Bytes):Prop:=∀ k,(V k).length=512
def setF (f:Nat->Bool) (k:Nat) (on:Bool):Nat->Bool:=fun i=>if i=k then on else f i
theorem setD_len {V:Nat->Bytes} (h:Len5 V) (first k:Nat) (on:Bool):Len5 (setD V first k on):=fun j=>by
 unfold setD wr
 split
 ·rw [setDigit_length];exact h _
 ·exact h _
theorem dig_setD {V:Nat->Bytes} (h:Len5 V) (first k i:Nat) (on:Bool):dig (setD V first k on) first i=if i=k then on else dig V first i:=by
 unfold dig setD wr
 by_cases hb:i / 4096=k / 4096
 ·rw [hb,if_pos rfl,setDigit_test _ _ _ _ (by rw [h];omega)]
  by_cases hik:i=k
  ·subst hik;simp
  ·rw [if_neg (by omega),if_neg hik]
 ·rw [if_neg (by omega),if_neg (fun h=>hb (by rw [h]))]
theorem dig_setD_other {V:Nat->Bytes} (first first' k i:Nat) (on:Bool) (h:first'+i / 4096≠first+k / 4096):dig (setD V first k on) first' i=dig V first' i:=by
 unfold dig setD wr
 rw [if_neg h]
theorem nodup_bound (a:Nat):∀ (m:Nat) (l:List Nat),l.Nodup->(∀ x∈l,a<=x/\x < a+m)->l.length<=m
 | 0,l,_,h=>by
  cases l with
  | nil=>exact Nat.le_refl _
  | cons x l=>have:=h x (List.mem_cons_self ..);omega
 | m+1,l,hn,h=>by
  have h1:=nodup_bound a m (l.erase (a+m)) (hn.erase _) (fun x hx=>by
   have h2:=(hn.mem_erase_iff).1 hx
   have:=h x h2.2
   omega)
  have h3:=List.length_erase (a:=a+m) (l:=l)
  split at h3<;>omega
variable {a c:Nat} {p:Pl} {bk0 ik0 bk ik:Nat->Bool} {op:Bool}
def cntB (f:Nat->Bool) (n:Nat):Nat:=((List.range n).filter f).length
theorem cnt_cntB {V:Nat->Bytes} {first n:Nat} {f:Nat->Bool} (h:∀ k,k < n->dig V first k=f k):cnt V first n=cntB f n:=by
 unfold cnt cntB
 rw [List.filter_congr (q:=f)]
 intro k hk
 exact h k (List.mem_range.1 hk)
end Go.Proofs.YtdmjkjeoamiedaaGreatDoor
end
section
namespace Go.Proofs.YtdmjkjeoamiedaaGreatDoor
open Go
def num (xs:Bytes) (q:Nat):Nat:=(xs.getD q 0).toNat+256 * (xs.getD (q+1) 0).toNat+65536 * (xs.getD (q+2) 0).toNat+16777216 * (xs.getD (q+3) 0).toNat
theorem num_lt (xs:Bytes) (q:Nat):num xs q < 4294967296:=by
 unfold num
 have h0:=(xs.getD q 0).toNat_lt
 have h1:=(xs.getD (q+1) 0).toNat_lt
 have h2:=(xs.getD (q+2) 0).toNat_lt
 have h3:=(xs.getD (q+3) 0).toNat_lt
 omega
theorem num_seg {xs:Bytes} {q:Nat} (h:q+4<=xs.length):beNat (seg xs q 4 false)=num xs q:=by
 have e:(xs.drop q).take 4=[xs.getD q 0,xs.getD (q+1) 0,xs.getD (q+2) 0,xs.getD (q+3) 0]:=by
  rw [List.drop_eq_getElem_cons (show q < xs.length by omega),List.drop_eq_getElem_cons (show q+1 < xs.length by omega),List.drop_eq_getElem_cons (show q+1+1 < xs.length by omega),List.drop_eq_getElem_cons (show q+1+1+1 < xs.length by omega)]
  simp only [List.take_succ_cons,List.take_zero,List.getD_eq_getElem?_getD]
  rw [List.getElem?_eq_getElem (show q < xs.length by omega),List.getElem?_eq_getElem (show q+1 < xs.length by omega),List.getElem?_eq_getElem (show q+2 < xs.length by omega),List.getElem?_eq_getElem (show q+3 < xs.length by omega)]
  rfl
 unfold seg
 simp only [e]
 simp [beNat,num]
 omega
def put4 (xs:Bytes) (q v:Nat):Bytes:=put xs q 4 false v
theorem put4_length (xs:Bytes) (q v:Nat):(put4 xs q v).length=xs.length:=put_length ..
theorem put4_getD {xs:Bytes} {q v:Nat} (h:q+4<=xs.length) (i:Nat):(put4 xs q v).getD i 0=if i=q then UInt8.ofNat v else if i=q+1 then UInt8.ofNat (v >>> 8) else if i=q+2 then UInt8.ofNat (v >>> 16) else if i=q+3 then UInt8.ofNat (v >>> 24) else xs.getD i 0:=by
 simp only [put4,put,putN,Bool.false_eq_true,if_false,List.getD_eq_getElem?_getD,List.getElem?_set,List.length_set,Nat.mul_zero,Nat.shiftRight_zero,Nat.add_zero]
 repeat' split
 all_goals first | omega | (simp;done) | rfl
theorem num_put4 {xs:Bytes} {q v:Nat} (h:q+4<=xs.length) (hv:v < 4294967296):num (put4 xs q v) q=v:=by
 unfold num
 simp only [put4_getD h]
 simp only [if_true,show q+1≠q from by omega,show q+2≠q from by omega,show q+3≠q from by omega,show q+2≠q+1 from by omega,show q+3≠q+1 from by omega,show q+3≠q+2 from by omega,if_false,UInt8.toNat_ofNat',Nat.shiftRight_eq_div_pow]
 omega
theorem num_put4_other {xs:Bytes} {q v r:Nat} (h:q+4<=xs.length) (hr:r+4<=q ∨ q+4<=r):num (put4 xs q v) r=num xs r:=by
 unfold num
 simp only [put4_getD h]
 repeat rw [if_neg (by omega),if_neg (by omega),if_neg (by omega),if_neg (by omega)]
def putL (b:Bytes) (a:Nat):List Nat->Bytes
 | []=>b
 | v :: l=>putL (put4 b a v) (a+4) l
theorem putL_length (b:Bytes) (a:Nat) (l:List Nat):(putL b a l).length=b.length:=by
 induction l generalizing b a with
 | nil=>rfl
 | cons v l ih=>rw [putL,ih,put4_length]
theorem putL_snoc (b:Bytes) (a:Nat) (l:List Nat) (v:Nat):putL b a (l++[v])=put4 (putL b a l) (a+4 * l.length) v:=by
 induction l generalizing b a with
 | nil=>rfl
 | cons u l ih=>rw [List.cons_append,putL,ih,putL,List.length_cons,show a+4+4 * l.length=a+4 * (l.length+1) from by omega]
theorem num_putL_other {b:Bytes} {a r:Nat} {l:List Nat} (h:a+4 * l.length<=b.length) (hr:r+4<=a ∨ a+4 * l.length<=r):num (putL b a l) r=num b r:=by
 induction l generalizing b a with
 | nil=>rfl
 | cons v l ih =>
  rw [List.length_cons] at h hr
  rw [putL,ih (by rw [put4_length];omega) (by omega),num_put4_other (by omega) (by omega)]
theorem num_putL {b:Bytes} {a:Nat} {l:List Nat} (h:a+4 * l.length<=b.length) (hl:∀ v∈l,v < 4294967296) {j:Nat} (hj:j < l.length):num (putL b a l) (a+4 * j)=l[j]:=by
 induction l generalizing b a j with
 | nil=>simp at hj
 | cons v l ih =>
  rw [List.length_cons] at h hj
  rw [putL]
  cases j with
  | zero =>
   rw [num_putL_other (by rw [put4_length];omega) (by omega)]
   exact num_put4 (by omega) (hl v (List.mem_cons_self ..))
  | succ j =>
   rw [show a+4 * (j+1)=a+4+4 * j from by omega,ih (by rw [put4_length];omega) (fun u hu=>hl u (List.mem_cons_of_mem _ hu)) (by omega)]
   rfl
structure Nd where
 kd:Nat
 sz:Nat
 bl:List Nat
def Nd.nums (x:Nd):List Nat:=x.kd :: x.sz :: x.bl
def ldB (b:Bytes) (a:Nat):Nd:=⟨num b a,num b (a+4),(List.range 11).map fun k=>num b (a+8+4 * k)⟩
def ldN (p:Pl) (V:Nat->Bytes) (i:Nat):Nd:=ldB (V (p.tb+i / 8)) (i % 8 * 64)
def svB (b:Bytes) (a:Nat) (x:Nd):Bytes:=putL b a x.nums
def svV (p:Pl) (V:Nat->Bytes) (i:Nat) (x:Nd):Nat->Bytes:=wr V (p.tb+i / 8) (svB (V (p.tb+i / 8)) (i % 8 * 64) x)
theorem svB_length (b:Bytes) (a:Nat) (x:Nd):(svB b a x).length=b.length:=putL_length ..
structure Fits (x:Nd):Prop where
 bl:x.bl.length=11
 lt:∀ v∈x.nums,v < 4294967296
theorem ldB_fits (b:Bytes) (a:Nat):Fits (ldB b a):=by
 refine ⟨by simp [ldB],fun v hv=>?_⟩
 unfold Nd.nums ldB at hv
 simp only [List.mem_cons,List.mem_map] at hv
 rcases hv with rfl | rfl | ⟨k,_,rfl⟩<;>exact num_lt _ _
theorem ldB_svB {b:Bytes} {a:Nat} {x:Nd} (hf:Fits x) (h:a+64<=b.length):ldB (svB b a x) a=x:=by
 obtain ⟨kd,sz,bl⟩:=x
 have hbl:bl.length=11:=hf.bl
 have hn:(Nd.nums ⟨kd,sz,bl⟩).length=13:=by simp [Nd.nums,hbl]
 have key:∀ j (hj:j < (Nd.nums ⟨kd,sz,bl⟩).length),num (svB b a ⟨kd,sz,bl⟩) (a+4 * j)=(Nd.nums ⟨kd,sz,bl⟩)[j]:=fun j hj=>num_putL (by rw [hn];omega) hf.lt hj
 unfold ldB
 have k0:=key 0 (by omega)
 have k1:=key 1 (by omega)
 simp only [Nd.nums,Nat.mul_zero,Nat.add_zero,List.getElem_cons_zero,Nat.mul_one,List.getElem_cons_succ] at k0 k1
 rw [k0,k1]
 congr 1
 apply List.ext_getElem
 ·simp [hbl]
 ·intro k h1 h2
  have:=key (k+2) (by rw [hn];omega)
  simp only [Nd.nums,List.getElem_cons_succ] at this
  rw [List.getElem_map,List.getElem_range,show a+8+4 * k=a+4 * (k+2) from by omega,this]
theorem ldB_svB_other {b:Bytes} {a c:Nat} {x:Nd} (hf:Fits x) (h:a+64<=b.length) (hc:c+64<=a ∨ a+64<=c):ldB (svB b a x) c=ldB b c:=by
 have hn:x.nums.length=13:=by simp [Nd.nums,hf.bl]
 have key:∀ r,c<=r->r+4<=c+64->num (svB b a x) r=num b r:=fun r h1 h2=>num_putL_other (by rw [hn];omega) (by rw [hn];omega)
 unfold ldB
 rw [key c (by omega) (by omega),key (c+4) (by omega) (by omega)]
 congr 1
 apply List.map_congr_left
 intro k hk
 have:=List.mem_range.1 hk
 exact key _ (by omega) (by omega)
theorem ldN_svV {p:Pl} {V:Nat->Bytes} (h5:Len5 V) {i:Nat} {x:Nd} (hf:Fits x):ldN p (svV p V i x) i=x:=by
 unfold ldN svV
 rw [show wr V (p.tb+i / 8) (svB (V (p.tb+i / 8)) (i % 8 * 64) x) (p.tb+i / 8)=svB (V (p.tb+i / 8)) (i % 8 * 64) x from if_pos rfl]
 exact ldB_svB hf (by rw [h5];omega)
theorem ldN_svV_other {p:Pl} {V:Nat->Bytes} (h5:Len5 V) {i j:Nat} (hij:j≠i) {x:Nd} (hf:Fits x):ldN p (svV p V i x) j=ldN p V j:=by
 unfold ldN svV wr
 split
 ·rename_i h
  rw [ldB_svB_other hf (by rw [h5];omega) (by omega)]
  rw [h]
 ·rfl
theorem wr_len {V:Nat->Bytes} (h:Len5 V) (k:Nat) {xs:Bytes} (hx:xs.length=512):Len5 (wr V k xs):=fun j=>by
 unfold wr
 split
 ·exact hx
 ·exact h j
theorem svV_len {p:Pl} {V:Nat->Bytes} (h5:Len5 V) (i:Nat) (x:Nd):Len5 (svV p V i x):=wr_len h5 _ (by rw [svB_length,h5])
theorem wr_same (V:Nat->Bytes) (k:Nat) (xs:Bytes):wr V k xs k=xs:=if_pos rfl
theorem wr_other (V:Nat->Bytes) {k j:Nat} (xs:Bytes) (h:j≠k):wr V k xs j=V j:=if_neg h
def ptr (V:Nat->Bytes) (x:Nd) (k:Nat):Nat:=if k=200 then x.bl.getD 10 0 else if k < 10 then x.bl.getD k 0 else num (V (x.bl.getD 10 0)) (4 * (k - 10))
def fb (V:Nat->Bytes) (x:Nd) (q:Nat):UInt8:=(V (ptr V x (q / 512))).getD (q % 512) 0
def stdS (m:Nat):Nat->Bool:=fun k=>decide (k < m) || (decide (k=200) && decide (10 < m))
theorem stdS_iff {m k:Nat}:stdS m k=true ↔ k < m ∨ (k=200/\10 < m):=by simp [stdS]
abbrev NF:=Nat->Option (Nd×(Nat->Bool))
def updF (nd:NF) (i:Nat) (y:Option (Nd×(Nat->Bool))):NF:=fun j=>if j=i then y else nd j
theorem updF_same (nd:NF) (i:Nat) (y:Option (Nd×(Nat->Bool))):updF nd i y i=y:=if_pos rfl
theorem updF_other (nd:NF) {i j:Nat} (y:Option (Nd×(Nat->Bool))) (h:j≠i):updF nd i y j=nd j:=if_neg h
structure SOk (S:Nat->Bool):Prop where
 code:∀ k,S k=true->k < 138 ∨ k=200
 ind:∀ k,S k=true->10<=k->S 200=true
structure Inv (p:Pl) (V:Nat->Bytes) (nd:NF):Prop where
 len:Len5 V
 fits:∀ i x S,nd i=some (x,S)->Fits x
 sok:∀ i x S,nd i=some (x,S)->SOk S
 lt:∀ i x S,nd i=some (x,S)->i < p.ino
 rng:∀ i x S k,nd i=some (x,S)->S k=true->p.da<=ptr V x k/\ptr V x k < p.n
 inj:∀ i x S k j y T l,nd i=some (x,S)->S k=true->nd j=some (y,T)->T l=true->ptr V x k=ptr V y l->i=j/\k=l
 map:∀ b,b < p.dc->(dig V p.bm b=true ↔ ∃ i x S k,nd i=some (x,S)/\S k=true/\ptr V x k=p.da+b)
 imap:∀ i,i < p.ino->dig V p.im i=(nd i).isSome
theorem ptr_congr {V V':Nat->Bytes} {x:Nd} {k:Nat} (h:k=200 ∨ k < 10 ∨ V' (x.bl.getD 10 0)=V (x.bl.getD 10 0)):ptr V' x k=ptr V x k:=by
 unfold ptr
 rcases h with h | h | h
 ·rw [if_pos h,if_pos h]
 ·simp only [show k≠200 from by omega,h,if_true,if_false]
 ·rw [h]
theorem ptr_200 (V:Nat->Bytes) (x:Nd):ptr V x 200=x.bl.getD 10 0:=if_pos rfl
theorem ptrs_congr {V V':Nat->Bytes} {x:Nd} {S:Nat->Bool} (hs:SOk S) (h:S 200=true->V' (x.bl.getD 10 0)=V (x.bl.getD 10 0)) {k:Nat} (hk:S k=true):ptr V' x k=ptr V x k:=by
 refine ptr_congr ?_
 by_cases h1:k < 10
 ·exact .inr (.inl h1)
 ·exact .inr (.inr (h (hs.ind k hk (by omega))))
theorem Inv.add {p:Pl} {V V':Nat->Bytes} {nd:NF} (h:Inv p V nd) {i b c:Nat} {x x':Nd} {S S':Nat->Bool} (hi:nd i=some (x,S)) (hb:b < p.dc) (hd:dig V p.bm b=false) (hdc:p.da+p.dc=p.n)
  (hf:Fits x') (hS:∀ k,S' k=true ↔ S k=true ∨ k=c) (hc:c < 138 ∨ c=200) (hc2:10<=c->c < 138->S 200=true) (hSc:S c=false)
  (h5:Len5 V') (hm:∀ k,k < p.dc->dig V' p.bm k=if k=b then true else dig V p.bm k) (hi2:∀ k,k < p.ino->dig V' p.im k=dig V p.im k)
  (hp:∀ k,S k=true->ptr V' x' k=ptr V x k) (hpc:ptr V' x' c=p.da+b) (ho:∀ j y T k,j≠i->nd j=some (y,T)->T k=true->ptr V' y k=ptr V y k):Inv p V' (updF nd i (some (x',S'))):=by
 have free:∀ j y T k,nd j=some (y,T)->T k=true->ptr V y k≠p.da+b:=fun j y T k hj hk he=>by
  have:=(h.map b hb).2 ⟨j,y,T,k,hj,hk,he⟩
  rw [hd] at this;cases this
 have get:∀ j y T k,updF nd i (some (x',S')) j=some (y,T)->T k=true->(∃ y0 T0,nd j=some (y0,T0)/\T0 k=true/\ptr V' y k=ptr V y0 k) ∨ (j=i/\k=c/\ptr V' y k=p.da+b):=by
  intro j y T k hj hk
  by_cases hji:j=i
  ·subst hji
   rw [updF_same] at hj
   cases hj
   rcases (hS k).1 hk with hk | rfl
   ·exact .inl ⟨x,S,hi,hk,hp k hk⟩
   ·exact .inr ⟨rfl,rfl,hpc⟩
  ·rw [updF_other _ _ hji] at hj
   exact .inl ⟨y,T,hj,hk,ho j y T k hji hj hk⟩
 refine ⟨h5,?_,?_,?_,?_,?_,?_,?_⟩
 ·intro j y T hj
  by_cases hji:j=i
  ·subst hji;rw [updF_same] at hj;cases hj;exact hf
  ·rw [updF_other _ _ hji] at hj;exact h.fits j y T hj
 ·intro j y T hj
  by_cases hji:j=i
  ·subst hji;rw [updF_same] at hj;cases hj
   have hs:=h.sok j x S hi
   refine ⟨fun k hk=>?_,fun k hk h10=>?_⟩
   ·rcases (hS k).1 hk with hk | rfl
    ·exact hs.code k hk
    ·exact hc
   ·rcases (hS k).1 hk with hk | rfl
    ·exact (hS 200).2 (.inl (hs.ind k hk h10))
    ·rcases hc with hc | hc
     ·exact (hS 200).2 (.inl (hc2 h10 hc))
     ·exact (hS 200).2 (.inr hc.symm)
  ·rw [updF_other _ _ hji] at hj;exact h.sok j y T hj
 ·intro j y T hj
  by_cases hji:j=i
  ·subst hji;exact h.lt j x S hi
  ·rw [updF_other _ _ hji] at hj;exact h.lt j y T hj
 ·intro j y T k hj hk
  rcases get j y T k hj hk with ⟨y0,T0,h1,h2,h3⟩ | ⟨_,_,h3⟩
  ·rw [h3];exact h.rng j y0 T0 k h1 h2
  ·rw [h3];omega
 ·intro j y T k j' y' T' k' hj hk hj' hk' he
  rcases get j y T k hj hk with ⟨y0,T0,h1,h2,h3⟩ | ⟨h1,h2,h3⟩<;>rcases get j' y' T' k' hj' hk' with ⟨y0',T0',h1',h2',h3'⟩ | ⟨h1',h2',h3'⟩
  ·rw [h3,h3'] at he;exact h.inj _ _ _ _ _ _ _ _ h1 h2 h1' h2' he
  ·rw [h3,h3'] at he;exact absurd he (free _ _ _ _ h1 h2)
  ·rw [h3,h3'] at he;exact absurd he.symm (free _ _ _ _ h1' h2')
  ·exact ⟨h1.trans h1'.symm,h2.trans h2'.symm⟩
 ·intro k hk
  rw [hm k hk]
  by_cases hkb:k=b
  ·subst hkb
   rw [if_pos rfl]
   exact ⟨fun _=>⟨i,x',S',c,updF_same ..,(hS c).2 (.inr rfl),hpc⟩,fun _=>rfl⟩
  ·rw [if_neg hkb,h.map k hk]
   constructor
   ·rintro ⟨j,y,T,l,hj,hl,he⟩
    by_cases hji:j=i
    ·subst hji
     rw [hi] at hj;cases hj
     exact ⟨j,x',S',l,updF_same ..,(hS l).2 (.inl hl),by rw [hp l hl];exact he⟩
    ·exact ⟨j,y,T,l,by rw [updF_other _ _ hji];exact hj,hl,by rw [ho j y T l hji hj hl];exact he⟩
   ·rintro ⟨j,y,T,l,hj,hl,he⟩
    rcases get j y T l hj hl with ⟨y0,T0,h1,h2,h3⟩ | ⟨h1,h2,h3⟩
    ·exact ⟨j,y0,T0,l,h1,h2,by rw [<- h3];exact he⟩
    ·exact absurd (h3.symm.trans he) (by omega)
 ·intro k hk
  rw [hi2 k hk,h.imap k hk]
  by_cases hki:k=i
  ·subst hki;rw [updF_same,hi];rfl
  ·rw [updF_other _ _ hki]
theorem Inv.drop {p:Pl} {V V':Nat->Bytes} {nd:NF} (h:Inv p V nd) {i b c:Nat} {x x':Nd} {S S':Nat->Bool} (hi:nd i=some (x,S)) (hSc:S c=true) (hb:ptr V x c=p.da+b)
  (hf:Fits x') (hS:∀ k,S' k=true ↔ S k=true/\k≠c) (hc:c=200->∀ k,S k=true->10<=k->k=200)
  (h5:Len5 V') (hm:∀ k,k < p.dc->dig V' p.bm k=if k=b then false else dig V p.bm k) (hi2:∀ k,k < p.ino->dig V' p.im k=dig V p.im k)
  (hp:∀ k,S' k=true->ptr V' x' k=ptr V x k) (ho:∀ j y T k,j≠i->nd j=some (y,T)->T k=true->ptr V' y k=ptr V y k):Inv p V' (updF nd i (some (x',S'))):=by
 have get:∀ j y T k,updF nd i (some (x',S')) j=some (y,T)->T k=true->∃ y0 T0,nd j=some (y0,T0)/\T0 k=true/\ptr V' y k=ptr V y0 k/\(j=i->k≠c):=by
  intro j y T k hj hk
  by_cases hji:j=i
  ·subst hji
   rw [updF_same] at hj
   cases hj
   exact ⟨x,S,hi,((hS k).1 hk).1,hp k hk,fun _=>((hS k).1 hk).2⟩
  ·rw [updF_other _ _ hji] at hj
   exact ⟨y,T,hj,hk,ho j y T k hji hj hk,fun hh=>absurd hh hji⟩
 refine ⟨h5,?_,?_,?_,?_,?_,?_,?_⟩
 ·intro j y T hj
  by_cases hji:j=i
  ·subst hji;rw [updF_same] at hj;cases hj;exact hf
  ·rw [updF_other _ _ hji] at hj;exact h.fits j y T hj
 ·intro j y T hj
  by_cases hji:j=i
  ·subst hji;rw [updF_same] at hj;cases hj
   have hs:=h.sok j x S hi
   refine ⟨fun k hk=>hs.code k ((hS k).1 hk).1,fun k hk h10=>(hS 200).2 ⟨hs.ind k ((hS k).1 hk).1 h10,fun hcc=>?_⟩⟩
   have h1:=(hS k).1 hk
   have:=hc hcc.symm k h1.1 h10
   exact h1.2 (this.trans hcc)
  ·rw [updF_other _ _ hji] at hj;exact h.sok j y T hj
 ·intro j y T hj
  by_cases hji:j=i
  ·subst hji;exact h.lt j x S hi
  ·rw [updF_other _ _ hji] at hj;exact h.lt j y T hj
 ·intro j y T k hj hk
  obtain ⟨y0,T0,h1,h2,h3,_⟩:=get j y T k hj hk
  rw [h3];exact h.rng j y0 T0 k h1 h2
 ·intro j y T k j' y' T' k' hj hk hj' hk' he
  obtain ⟨y0,T0,h1,h2,h3,_⟩:=get j y T k hj hk
  obtain ⟨y0',T0',h1',h2',h3',_⟩:=get j' y' T' k' hj' hk'
  rw [h3,h3'] at he;exact h.inj _ _ _ _ _ _ _ _ h1 h2 h1' h2' he
 ·intro k hk
  rw [hm k hk]
  by_cases hkb:k=b
  ·subst hkb
   rw [if_pos rfl]
   refine ⟨fun hh=>(by cases hh),?_⟩
   rintro ⟨j,y,T,l,hj,hl,he⟩
   obtain ⟨y0,T0,h1,h2,h3,h4⟩:=get j y T l hj hl
   have:=h.inj j y0 T0 l i x S c h1 h2 hi hSc (by rw [<- h3,he,hb])
   exact absurd this.2 (h4 this.1)
  ·rw [if_neg hkb,h.map k hk]
   constructor
   ·rintro ⟨j,y,T,l,hj,hl,he⟩
    by_cases hji:j=i
    ·subst hji
     rw [hi] at hj;cases hj
     have hlc:l≠c:=fun hh=>hkb (by subst hh;omega)
     have hl2:=(hS l).2 ⟨hl,hlc⟩
     exact ⟨j,x',S',l,updF_same ..,hl2,by rw [hp l hl2];exact he⟩
    ·exact ⟨j,y,T,l,by rw [updF_other _ _ hji];exact hj,hl,by rw [ho j y T l hji hj hl];exact he⟩
   ·rintro ⟨j,y,T,l,hj,hl,he⟩
    obtain ⟨y0,T0,h1,h2,h3,_⟩:=get j y T l hj hl
    exact ⟨j,y0,T0,l,h1,h2,by rw [<- h3];exact he⟩
 ·intro k hk
  rw [hi2 k hk,h.imap k hk]
  by_cases hki:k=i
  ·subst hki;rw [updF_same,hi];rfl
  ·rw [updF_other _ _ hki]
theorem Inv.same {p:Pl} {V V':Nat->Bytes} {nd nd':NF} (h:Inv p V nd) (h5:Len5 V') (hm:∀ k,k < p.dc->dig V' p.bm k=dig V p.bm k) (hi2:∀ k,k < p.ino->dig V' p.im k=dig V p.im k)
  (hn:∀ j,(nd' j=none/\nd j=none) ∨ ∃ y y' T,nd j=some (y,T)/\nd' j=some (y',T)/\Fits y'/\∀ k,T k=true->ptr V' y' k=ptr V y k):Inv p V' nd':=by
 have get:∀ j y T,nd' j=some (y,T)->∃ y0,nd j=some (y0,T)/\Fits y/\∀ k,T k=true->ptr V' y k=ptr V y0 k:=by
  intro j y T hj
  rcases hn j with ⟨h1,_⟩ | ⟨y0,y',T',h1,h2,h3,h4⟩
  ·rw [h1] at hj;cases hj
  ·rw [h2] at hj;cases hj;exact ⟨y0,h1,h3,h4⟩
 refine ⟨h5,?_,?_,?_,?_,?_,?_,?_⟩
 ·intro j y T hj;obtain ⟨y0,h1,h2,h3⟩:=get j y T hj;exact h2
 ·intro j y T hj;obtain ⟨y0,h1,h2,h3⟩:=get j y T hj;exact h.sok _ _ _ h1
 ·intro j y T hj;obtain ⟨y0,h1,h2,h3⟩:=get j y T hj;exact h.lt _ _ _ h1
 ·intro j y T k hj hk;obtain ⟨y0,h1,h2,h3⟩:=get j y T hj;rw [h3 k hk];exact h.rng _ _ _ _ h1 hk
 ·intro j y T k j' y' T' k' hj hk hj' hk' he
  obtain ⟨y0,h1,h2,h3⟩:=get j y T hj
  obtain ⟨y0',h1',h2',h3'⟩:=get j' y' T' hj'
  rw [h3 k hk,h3' k' hk'] at he
  exact h.inj _ _ _ _ _ _ _ _ h1 hk h1' hk' he
 ·intro k hk
  rw [hm k hk,h.map k hk]
  constructor
  ·rintro ⟨j,y,T,l,hj,hl,he⟩
   rcases hn j with ⟨_,h2⟩ | ⟨y0,y',T',h1,h2,h3,h4⟩
   ·rw [h2] at hj;cases hj
   ·rw [h1] at hj;cases hj;exact ⟨j,y',T,l,h2,hl,by rw [h4 l hl];exact he⟩
  ·rintro ⟨j,y,T,l,hj,hl,he⟩
   obtain ⟨y0,h1,h2,h3⟩:=get j y T hj
   exact ⟨j,y0,T,l,h1,hl,by rw [<- h3 l hl];exact he⟩
 ·intro k hk
  rw [hi2 k hk,h.imap k hk]
  rcases hn k with ⟨h1,h2⟩ | ⟨y0,y',T',h1,h2,h3,h4⟩
  ·rw [h1,h2]
  ·rw [h1,h2];rfl
structure Kp (p:Pl) (V V':Nat->Bytes) (nd:NF) (i:Nat):Prop where
 lo:∀ b,b < p.bm->V' b=V b
 tab:∀ b,p.tb<=b->b < p.da->V' b=V b
 oth:∀ j y T k,j≠i->nd j=some (y,T)->T k=true->V' (ptr V y k)=V (ptr V y k)
theorem Kp.refl (p:Pl) (V:Nat->Bytes) (nd:NF) (i:Nat):Kp p V V nd i:=⟨fun _ _=>rfl,fun _ _ _=>rfl,fun _ _ _ _ _ _ _=>rfl⟩
theorem Kp.ptr {p:Pl} {V V':Nat->Bytes} {nd:NF} {i:Nat} (h:Kp p V V' nd i) {j:Nat} {y:Nd} {T:Nat->Bool} {k:Nat} (hs:SOk T) (hji:j≠i) (hj:nd j=some (y,T)) (hk:T k=true):ptr V' y k=ptr V y k :=
 ptrs_congr hs (fun h2=>by have:=h.oth j y T 200 hji hj h2;rwa [ptr_200] at this) hk
theorem Kp.trans {p:Pl} {V V' V'':Nat->Bytes} {nd nd':NF} {i:Nat} (h:Kp p V V' nd i) (h':Kp p V' V'' nd' i) (hs:∀ j y T,nd j=some (y,T)->SOk T) (hn:∀ j,j≠i->nd' j=nd j):Kp p V V'' nd i:=by
 refine ⟨fun b hb=>(h'.lo b hb).trans (h.lo b hb),fun b h1 h2=>(h'.tab b h1 h2).trans (h.tab b h1 h2),fun j y T k hji hj hk=>?_⟩
 have h1:=h.oth j y T k hji hj hk
 have h2:=h.ptr (hs j y T hj) hji hj hk
 have h3:=h'.oth j y T k hji (by rw [hn j hji];exact hj) hk
 rw [h2] at h3
 exact h3.trans h1
theorem Kp.ldN {p:Pl} {V V':Nat->Bytes} {nd:NF} {i:Nat} (h:Kp p V V' nd i) (ht:p.tb+(p.ino+7) / 8<=p.da) {j:Nat} (hj:j < p.ino):ldN p V' j=ldN p V j:=by
 unfold Go.Proofs.YtdmjkjeoamiedaaGreatDoor.ldN
 rw [h.tab _ (by omega) (by omega)]
structure Dk (p:Pl) (D:List Nat):Prop where
 nd:D.Nodup
 lo:∀ x∈D,245<=x
 hi:∀ x∈D,x < p.n
def wt (p:Pl) (D:List Nat):Nat:=(D.filter fun x=>decide (p.tb<=x)).length
def Rm (p:Pl) (D:List Nat) (c:Nat):Prop:=p.n<=304 ∨ (p.tb - 245)+wt p D+c<=60
theorem Dk.nil (p:Pl):Dk p []:=⟨List.nodup_nil,(fun x hx=>by cases hx),(fun x hx=>by cases hx)⟩
theorem Rm.mono {p:Pl} {D D':List Nat} {c c':Nat} (h:Rm p D c) (hw:wt p D'+c'<=wt p D+c):Rm p D' c':=by
 unfold Rm at h ⊢
 rcases h with h | h
 ·exact .inl h
 ·exact .inr (by omega)
theorem Dk.room {p:Pl} {D:List Nat} {c:Nat} (h:Dk p D) (hr:Rm p D (c+1)):Room D:=by
 unfold Room
 rcases hr with hr | hr
 ·have:=nodup_bound 245 59 D h.nd fun x hx=>⟨h.lo x hx,by have:=h.hi x hx;omega⟩
  omega
 ·have h1:D.length=wt p D+(D.filter fun x=>!decide (p.tb<=x)).length:=by
   unfold wt
   induction D with
   | nil=>rfl
   | cons a D ih =>
    have:=ih ⟨(List.nodup_cons.1 h.nd).2,fun x hx=>h.lo x (List.mem_cons_of_mem _ hx),fun x hx=>h.hi x (List.mem_cons_of_mem _ hx)⟩ (by
     unfold wt at hr ⊢
     simp only [List.filter_cons] at hr
     split at hr
     ·simp only [List.length_cons] at hr;omega
     ·exact hr)
    simp only [List.filter_cons,List.length_cons]
    cases hd:decide (p.tb<=a)
    ·simp;omega
    ·simp;omega
  have h2:=nodup_bound 245 (p.tb - 245) (D.filter fun x=>!decide (p.tb<=x)) (h.nd.filter _) fun x hx=>by
   rw [List.mem_filter] at hx
   have h3:=h.lo x hx.1
   have h4:¬ p.tb<=x:=by simpa using hx.2
   omega
  omega
theorem Dk.ins {p:Pl} {D:List Nat} (h:Dk p D) {k:Nat} (h1:245<=k) (h2:k < p.n):Dk p (insD D k):=by
 unfold insD
 split
 ·exact h
 ·rename_i hk
  refine ⟨?_,fun x hx=>?_,fun x hx=>?_⟩
  ·rw [List.nodup_append]
   refine ⟨h.nd,by simp,fun a ha b hb=>?_⟩
   simp only [List.mem_singleton] at hb
   subst hb
   exact fun hh=>hk (hh ▸ ha)
  ·rcases List.mem_append.1 hx with hx | hx
   ·exact h.lo x hx
   ·rw [List.mem_singleton] at hx;omega
  ·rcases List.mem_append.1 hx with hx | hx
   ·exact h.hi x hx
   ·rw [List.mem_singleton] at hx;omega
theorem wt_ins (p:Pl) (D:List Nat) (k:Nat):wt p (insD D k)<=wt p D+1/\(k < p.tb->wt p (insD D k)=wt p D)/\(k∈D->wt p (insD D k)=wt p D):=by
 unfold insD wt
 split
 ·rename_i hk;exact ⟨by omega,fun _=>rfl,fun _=>rfl⟩
 ·rename_i hk
  rw [List.filter_append,List.length_append]
  refine ⟨by have:=List.length_filter_le (fun x=>decide (p.tb<=x)) [k];simp only [List.length_singleton] at this;omega,fun h=>?_,fun h=>absurd h hk⟩
  rw [List.filter_cons,if_neg (by simp;omega)]
  rfl
theorem mem_insD {D:List Nat} {k x:Nat}:x∈insD D k ↔ x∈D ∨ x=k:=by
 unfold insD
 split
 ·constructor
  ·exact .inl
  ·rintro (h | rfl)
   ·exact h
   ·assumption
 ·simp
abbrev FM:=Nat->Option (Nat×Bytes)
def dat (n:Nat):Nat:=(n+511) / 512
def has (n:Nat):Nat:=if dat n<=10 then dat n else dat n+1
def updM (F:FM) (i:Nat) (y:Option (Nat×Bytes)):FM:=fun j=>if j=i then y else F j
theorem updM_same (F:FM) (i:Nat) (y:Option (Nat×Bytes)):updM F i y i=y:=if_pos rfl
theorem updM_other (F:FM) {i j:Nat} (y:Option (Nat×Bytes)) (h:j≠i):updM F i y j=F j:=if_neg h
def hasO:Option (Nat×Bytes)->Nat
 | none=>0
 | some f=>has f.2.length
def tot (F:FM):Nat->Nat
 | 0=>0
 | n+1=>tot F n+hasO (F n)
theorem tot_upd (F:FM) (i:Nat) (y:Option (Nat×Bytes)):∀ n,tot (updM F i y) n+(if i < n then hasO (F i) else 0)=tot F n+(if i < n then hasO y else 0)
 | 0=>rfl
 | n+1=>by
  have ih:=tot_upd F i y n
  unfold tot
  by_cases h:n=i
  ·subst h
   rw [updM_same]
   rw [if_neg (by omega),if_neg (by omega)] at ih
   rw [if_pos (by omega),if_pos (by omega)]
   omega
  ·rw [updM_other _ _ h]
   by_cases h2:i < n
   ·rw [if_pos h2,if_pos h2] at ih
    rw [if_pos (by omega),if_pos (by omega)]
    omega
   ·rw [if_neg h2,if_neg h2] at ih
    rw [if_neg (by omega),if_neg (by omega)]
    omega
theorem tot_upd' (F:FM) {i n:Nat} (h:i < n) (y:Option (Nat×Bytes)):tot (updM F i y) n+hasO (F i)=tot F n+hasO y:=by
 have:=tot_upd F i y n
 rwa [if_pos h,if_pos h] at this
def ndOf (p:Pl) (V:Nat->Bytes) (F:FM):NF:=fun i=>(F i).map fun f=>(ldN p V i,stdS (dat f.2.length))
structure FOk (V:Nat->Bytes) (x:Nd) (f:Nat×Bytes):Prop where
 kd:x.kd=f.1
 k12:f.1=1 ∨ f.1=2
 sz:x.sz=f.2.length
 big:f.2.length<=70656
 byt:∀ q,q < f.2.length->fb V x q=f.2.getD q 0
structure Rep (p:Pl) (V:Nat->Bytes) (F:FM):Prop where
 inv:Inv p V (ndOf p V F)
 ok:∀ i f,F i=some f->FOk V (ldN p V i) f
 cn:cnt V p.bm p.dc=tot F p.ino
 root:(F 0).isSome=true
theorem Rep.lt {p:Pl} {V:Nat->Bytes} {F:FM} (h:Rep p V F) {i:Nat} {f:Nat×Bytes} (hi:F i=some f):i < p.ino :=
 h.inv.lt i (ldN p V i) (stdS (dat f.2.length)) (by unfold ndOf;rw [hi];rfl)
theorem stdS_ok {m:Nat} (h:m<=138):SOk (stdS m):=by
 refine ⟨fun k hk=>?_,fun k hk h10=>?_⟩
 ·rcases stdS_iff.1 hk with h1 | ⟨h1,_⟩
  ·exact .inl (by omega)
  ·exact .inr h1
 ·rcases stdS_iff.1 hk with h1 | ⟨h1,h2⟩
  ·exact stdS_iff.2 (.inr ⟨rfl,by omega⟩)
  ·exact stdS_iff.2 (.inr ⟨rfl,h2⟩)
theorem dat_le {n:Nat} (h:n<=70656):dat n<=138:=by unfold dat;omega
theorem fb_congr {V V':Nat->Bytes} {x y:Nd} {q:Nat} (hp:ptr V' y (q / 512)=ptr V x (q / 512)) (hv:V' (ptr V x (q / 512))=V (ptr V x (q / 512))):fb V' y q=fb V x q:=by
 unfold fb
 rw [hp,hv]
theorem Rep.save {p:Pl} {V V':Nat->Bytes} {F:FM} (h:Rep p V F) (ho:PlOk p) {i:Nat} {x:Nd} {f:Nat×Bytes} (hi:i < p.ino) (hr:F i≠none ∨ i≠0)
  (hn:Inv p V' (updF (ndOf p V F) i (some (x,stdS (dat f.2.length))))) (hk:∀ j g,j≠i->F j=some g->ldN p V' j=ldN p V j/\∀ k,stdS (dat g.2.length) k=true->V' (ptr V (ldN p V j) k)=V (ptr V (ldN p V j) k))
  (hf:FOk V' x f) (hc:cnt V' p.bm p.dc+hasO (F i)=cnt V p.bm p.dc+has f.2.length):Rep p (svV p V' i x) (updM F i (some f)):=by
 have htab:=ho.tab
 have htbl:=ho.tbl
 have hap:=ho.apart
 have hi2:=ho.i2
 have hfx:Fits x:=hn.fits i x _ (updF_same ..)
 have hV:∀ b,p.da<=b ∨ b < p.tb->svV p V' i x b=V' b:=fun b hb=>wr_other _ _ (by omega)
 have hld:∀ j,j≠i->ldN p (svV p V' i x) j=ldN p V' j:=fun j hj=>ldN_svV_other hn.len hj hfx
 have hnd:∀ j,ndOf p (svV p V' i x) (updM F i (some f)) j=updF (ndOf p V F) i (some (x,stdS (dat f.2.length))) j:=by
  intro j
  by_cases hj:j=i
  ·subst hj
   rw [updF_same]
   unfold ndOf
   rw [updM_same]
   show some (_,_)=_
   rw [ldN_svV hn.len hfx]
  ·rw [updF_other _ _ hj]
   unfold ndOf
   rw [updM_other _ _ hj,hld j hj]
   cases hF:F j with
   | none=>rfl
   | some g=>rw [(hk j g hj hF).1]
 have hdig:∀ k,k < p.dc->dig (svV p V' i x) p.bm k=dig V' p.bm k:=fun k hk'=>by unfold dig;rw [hV _ (by omega)]
 refine ⟨?_,?_,?_,?_⟩
 ·refine hn.same (svV_len hn.len i x) hdig (fun k hk'=>by unfold dig;rw [hV _ (by omega)]) fun j=>?_
  rw [hnd j]
  cases hj:updF (ndOf p V F) i (some (x,stdS (dat f.2.length))) j with
  | none=>exact .inl ⟨rfl,rfl⟩
  | some y =>
   obtain ⟨y,T⟩:=y
   refine .inr ⟨y,y,T,rfl,rfl,hn.fits _ _ _ hj,fun k hk'=>ptrs_congr (hn.sok _ _ _ hj) (fun h2=>hV _ ?_) hk'⟩
   have:=hn.rng _ _ _ 200 hj h2
   rw [ptr_200] at this
   exact .inl this.1
 ·intro j g hj
  by_cases hji:j=i
  ·subst hji
   rw [updM_same] at hj
   cases hj
   rw [ldN_svV hn.len hfx]
   refine ⟨hf.kd,hf.k12,hf.sz,hf.big,fun q hq=>?_⟩
   rw [<- hf.byt q hq]
   have hS:stdS (dat f.2.length) (q / 512)=true:=stdS_iff.2 (.inl (by unfold dat;omega))
   have hp:ptr (svV p V' j x) x (q / 512)=ptr V' x (q / 512):=ptrs_congr (hn.sok _ _ _ (updF_same ..)) (fun h2=>hV _ (by
    have:=hn.rng _ _ _ 200 (updF_same ..) h2
    rw [ptr_200] at this
    exact .inl this.1)) hS
   exact fb_congr hp (hV _ (.inl (hn.rng _ _ _ _ (updF_same ..) hS).1))
  ·rw [updM_other _ _ hji] at hj
   have hj':=h.ok j g hj
   obtain ⟨h1,h2⟩:=hk j g hji hj
   rw [hld j hji,h1]
   refine ⟨hj'.kd,hj'.k12,hj'.sz,hj'.big,fun q hq=>?_⟩
   rw [<- hj'.byt q hq]
   have hS:stdS (dat g.2.length) (q / 512)=true:=stdS_iff.2 (.inl (by unfold dat;omega))
   have hnj:ndOf p V F j=some (ldN p V j,stdS (dat g.2.length)):=by unfold ndOf;rw [hj];rfl
   have hr1:=fun k hk'=>h.inv.rng j (ldN p V j) (stdS (dat g.2.length)) k hnj hk'
   have hp:ptr (svV p V' i x) (ldN p V j) (q / 512)=ptr V (ldN p V j) (q / 512):=ptrs_congr (stdS_ok (dat_le hj'.big)) (fun h3=>by
    have h4:=h2 200 h3
    have h5:=hr1 200 h3
    rw [ptr_200] at h4 h5
    rw [hV _ (.inl h5.1),h4]) hS
   exact fb_congr hp (by rw [hV _ (.inl (hr1 _ hS).1)];exact h2 _ hS)
 ·have h1:cnt (svV p V' i x) p.bm p.dc=cnt V' p.bm p.dc:=by
   unfold cnt
   rw [List.filter_congr]
   intro k hk'
   exact hdig k (List.mem_range.1 hk')
  have h2:=tot_upd' F hi (some f)
  rw [h1]
  have h3:=h.cn
  have:hasO (some f)=has f.2.length:=rfl
  omega
 ·by_cases h0:0=i
  ·rw [<- h0,updM_same];rfl
  ·rw [updM_other _ _ h0];exact h.root
theorem Rep.laid {p:Pl} {V V':Nat->Bytes} {F:FM} (h:Rep p V F) (ho:PlOk p) {i:Nat} {f:Nat×Bytes} {bs:Bytes} (hi:F i=some f) (hl:bs.length=f.2.length)
  (hn:Inv p V' (ndOf p V F)) (hk:Kp p V V' (ndOf p V F) i) (hm:∀ k,k < p.dc->dig V' p.bm k=dig V p.bm k) (hb:∀ q,q < bs.length->fb V' (ldN p V i) q=bs.getD q 0):Rep p V' (updM F i (some (f.1,bs))):=by
 have htab:=ho.tab
 have hld:∀ j,j < p.ino->ldN p V' j=ldN p V j:=fun j hj=>hk.ldN htab hj
 have hnd:∀ j,ndOf p V' (updM F i (some (f.1,bs))) j=ndOf p V F j:=by
  intro j
  by_cases hj:j=i
  ·subst hj
   unfold ndOf
   rw [updM_same,hi]
   show some (_,_)=some (_,_)
   rw [hld j (h.lt hi),hl]
  ·unfold ndOf
   rw [updM_other _ _ hj]
   cases hF:F j with
   | none=>rfl
   | some g =>
    show some (_,_)=some (_,_)
    rw [hld j (h.lt hF)]
 refine ⟨?_,?_,?_,?_⟩
 ·refine hn.same hn.len (fun _ _=>rfl) (fun _ _=>rfl) fun j=>?_
  rw [hnd j]
  cases hj:ndOf p V F j with
  | none=>exact .inl ⟨rfl,rfl⟩
  | some y =>
   obtain ⟨y,T⟩:=y
   exact .inr ⟨y,y,T,rfl,rfl,hn.fits _ _ _ hj,fun _ _=>rfl⟩
 ·intro j g hj
  by_cases hji:j=i
  ·subst hji
   rw [updM_same] at hj
   cases hj
   have hj':=h.ok j f hi
   rw [hld j (h.lt hi)]
   exact ⟨hj'.kd,hj'.k12,hj'.sz.trans hl.symm,by show bs.length<=70656;rw [hl];exact hj'.big,hb⟩
  ·rw [updM_other _ _ hji] at hj
   have hj':=h.ok j g hj
   rw [hld j (h.lt hj)]
   refine ⟨hj'.kd,hj'.k12,hj'.sz,hj'.big,fun q hq=>?_⟩
   rw [<- hj'.byt q hq]
   have hS:stdS (dat g.2.length) (q / 512)=true:=stdS_iff.2 (.inl (by unfold dat;omega))
   have hnj:ndOf p V F j=some (ldN p V j,stdS (dat g.2.length)):=by unfold ndOf;rw [hj];rfl
   exact fb_congr (hk.ptr (stdS_ok (dat_le hj'.big)) hji hnj hS) (hk.oth j _ _ _ hji hnj hS)
 ·have h1:cnt V' p.bm p.dc=cnt V p.bm p.dc:=by
   unfold cnt
   rw [List.filter_congr]
   intro k hk'
   exact hm k (List.mem_range.1 hk')
  have h2:=tot_upd' F (h.lt hi) (some (f.1,bs))
  rw [h1,h.cn]
  rw [hi] at h2
  have h3:tot (updM F i (some (f.1,bs))) p.ino+has f.2.length=tot F p.ino+has bs.length:=h2
  rw [hl] at h3
  omega
 ·by_cases h0:0=i
  ·rw [<- h0,updM_same];rfl
  ·rw [updM_other _ _ h0];exact h.root
section
variable {P:Program} {B:Base} {n:Fr} {Q Q':Exit->Act->World->Prop} {e:Env} {L:List HP} {ops:Array Oper} {l:List Oper}
variable {d:Nat} {ty:TypeId} {pos:String} {af:Array Edge} {x y z:Operand} {gd:Option (Nat×Bool)}
def row (b el:Nat) (xs:List Value):HP:=pt b (.cells xs.toArray el (0,0))
def arrOk (P:Program) (t el k size:Nat):Bool :=
 match P.underlying t with
 | some (.array m e)=>Nat.beq m k && Nat.beq e el && (match P.info? el with
  | some i=>Nat.beq i.size size
  | none=>false)
 | _=>false
theorem arr_of {t el k size:Nat} (h:arrOk P t el k size=true):P.underlying t=some (.array k el)/\∃ i,P.info? el=some i/\i.size=size:=by
 unfold arrOk at h
 split at h
 ·rename_i m e hu
  simp only [Bool.and_eq_true] at h
  obtain ⟨⟨h1,h2⟩,h3⟩:=h
  have h1:=Nat.eq_of_beq_eq_true h1
  have h2:=Nat.eq_of_beq_eq_true h2
  subst h1;subst h2
  split at h3
  ·rename_i i hi
   exact ⟨hu,i,hi,Nat.eq_of_beq_eq_true h3⟩
  ·cases h3
 ·cases h
theorem Qt.idxA {t el size b off k:Nat} {p:Int} {kk:IntKind} (ht:arrOk P t el k size=true)
  (hx:evo e x=some (.pointer (some ⟨b,off,none⟩)):=by rfl) (hy:evo e y=some (.int kk p):=by rfl) (hp:0<=p/\p < k:=by omega) :
  Qt P B n e L ⟨some d,.indexAddr t x y,ty,pos,af,gd⟩ (.pointer (some ⟨b,off+p.toNat * size,none⟩)) :=
 fun a w ha hs=>by
  obtain ⟨hu,i,hi,hsz⟩:=arr_of ht
  simp [execOp,ha.eval hx,ha.eval hy,Instr.indexAt,asIntOf,run_underlying hu,hp,sizeOf,typeInfo,hi,hsz,add_plain',Instr.sureAddr]
theorem WL.idxA {t el size b off k:Nat} {p:Int} {kk:IntKind} (h:WL P B n ops l Q ((d,.pointer (some ⟨b,off+p.toNat * size,none⟩)) :: e) L) (ht:arrOk P t el k size=true)
  (hx:evo e x=some (.pointer (some ⟨b,off,none⟩)):=by rfl) (hy:evo e y=some (.int kk p):=by rfl) (hp:0<=p/\p < k:=by omega) (hd:Nat.ble (d+1) n.k=true:=by rfl) :
  WL P B n ops (⟨some d,.indexAddr t x y,ty,pos,af,none⟩ :: l) Q e L :=
 WL.pure h hd (Qt.idxA (ht:=ht) (hp:=hp) (hx:=hx) (hy:=hy))
theorem Qt.ixV {t el k:Nat} {p:Int} {kk:IntKind} {cs:Array Value} {v:Value} (ht:arrOk P t el k 1=true) (hsc:scalarOk P el=true) (hv:cs[p.toNat]?=some v)
  (hx:evo e x=some (.agg cs):=by rfl) (hy:evo e y=some (.int kk p):=by rfl) (hp:0<=p/\p < k:=by omega) :
  Qt P B n e L ⟨some d,.index t x y,ty,pos,af,gd⟩ v :=
 fun a w ha hs=>by
  obtain ⟨hu,i,hi,hsz⟩:=arr_of ht
  have hpart:(part el cs p.toNat).run P w=.ok v w:=by simp [part,run_isAgg_scalar hsc,hv]
  simp [execOp,ha.eval hx,ha.eval hy,Instr.index,asIntOf,run_underlying hu,hp,sizeOf,typeInfo,hi,hsz,hpart]
theorem WL.ixV {t el k:Nat} {p:Int} {kk:IntKind} {cs:Array Value} {v:Value} (h:WL P B n ops l Q ((d,v) :: e) L) (ht:arrOk P t el k 1=true) (hsc:scalarOk P el=true) (hv:cs[p.toNat]?=some v)
  (hx:evo e x=some (.agg cs):=by rfl) (hy:evo e y=some (.int kk p):=by rfl) (hp:0<=p/\p < k:=by omega) (hd:Nat.ble (d+1) n.k=true:=by rfl) :
  WL P B n ops (⟨some d,.index t x y,ty,pos,af,none⟩ :: l) Q e L:=WL.pure h hd (Qt.ixV ht hsc hv hx hy hp)
theorem Qt.ldL {t b el i:Nat} {xs:List Value} {v:Value} (hsc:scalarOk P t=true) (hv:xs[i]?=some v)
  (hx:evo e x=some (.pointer (some ⟨b,i,none⟩)):=by rfl) (hm:Mem L (row b el xs):=by repeat (first | exact .here | refine .there ?_)) :
  Qt P B n e L ⟨some d,.load t x,ty,pos,af,gd⟩ v :=
 Qt.ld hsc hx hm (by rw [nthv_eq];exact hv)
theorem WL.ldL {t b el i:Nat} {xs:List Value} {v:Value} (h:WL P B n ops l Q ((d,v) :: e) L) (hsc:scalarOk P t=true) (hv:xs[i]?=some v)
  (hx:evo e x=some (.pointer (some ⟨b,i,none⟩)):=by rfl) (hm:Mem L (row b el xs):=by repeat (first | exact .here | refine .there ?_)) (hd:Nat.ble (d+1) n.k=true:=by rfl) :
  WL P B n ops (⟨some d,.load t x,ty,pos,af,none⟩ :: l) Q e L:=WL.pure h hd (Qt.ldL hsc hv hx hm)
theorem Qt.ldLA {t b el off k:Nat} {xs us:List Value} (hag:aggOk P t k=true) (hus:(xs.drop off).take k=us) (hk:off+k<=xs.length)
  (hx:evo e x=some (.pointer (some ⟨b,off,none⟩)):=by rfl) (hm:Mem L (row b el xs):=by repeat (first | exact .here | refine .there ?_)) :
  Qt P B n e L ⟨some d,.load t x,ty,pos,af,gd⟩ (.agg us.toArray) :=
 Qt.ldP (cs:=xs.toArray) (us:=us.toArray) hag (by simpa using hus) (Nat.ble_eq_true_of_le (by simpa using hk)) hx hm
theorem WL.ldLA {t b el off k:Nat} {xs us:List Value} (h:WL P B n ops l Q ((d,.agg us.toArray) :: e) L) (hag:aggOk P t k=true) (hus:(xs.drop off).take k=us) (hk:off+k<=xs.length)
  (hx:evo e x=some (.pointer (some ⟨b,off,none⟩)):=by rfl) (hm:Mem L (row b el xs):=by repeat (first | exact .here | refine .there ?_)) (hd:Nat.ble (d+1) n.k=true:=by rfl) :
  WL P B n ops (⟨some d,.load t x,ty,pos,af,none⟩ :: l) Q e L:=WL.pure h hd (Qt.ldLA hag hus hk hx hm)
theorem Qt.ldW {t b el k:Nat} {xs:List Value} (hag:aggOk P t k=true) (hk:xs.length=k)
  (hx:evo e x=some (.pointer (some ⟨b,0,none⟩)):=by rfl) (hm:Mem L (row b el xs):=by repeat (first | exact .here | refine .there ?_)) :
  Qt P B n e L ⟨some d,.load t x,ty,pos,af,gd⟩ (.agg xs.toArray) :=
 Qt.ldLA hag (by rw [List.drop_zero,List.take_of_length_le (by omega)]) (by omega) hx hm
theorem WL.ldW {t b el k:Nat} {xs:List Value} (h:WL P B n ops l Q ((d,.agg xs.toArray) :: e) L) (hag:aggOk P t k=true) (hk:xs.length=k)
  (hx:evo e x=some (.pointer (some ⟨b,0,none⟩)):=by rfl) (hm:Mem L (row b el xs):=by repeat (first | exact .here | refine .there ?_)) (hd:Nat.ble (d+1) n.k=true:=by rfl) :
  WL P B n ops (⟨some d,.load t x,ty,pos,af,none⟩ :: l) Q e L:=WL.pure h hd (Qt.ldW hag hk hx hm)
theorem row_set {b el i:Nat} {xs:List Value} {v:Value}:pt b (.cells (xs.toArray.setIfInBounds i v) el (0,0))=row b el (xs.set i v):=by
 unfold row
 congr 2
 simp
theorem WL.stL {t b el i:Nat} {xs:List Value} {v:Value} {L':List HP} (h:WL P B n ops l Q e L') (hsc:scalarOk P t=true) (hi:i < xs.length)
  (hx:evo e x=some (.pointer (some ⟨b,i,none⟩)):=by rfl) (hy:evo e y=some v:=by rfl)
  (hr:Repl L (row b el xs) (row b el (xs.set i v)) L':=by repeat (first | exact .here | apply Repl.there)) (hv:Value.single v=true:=by rfl) :
  WL P B n ops (⟨none,.store t x y,ty,pos,af,none⟩ :: l) Q e L :=
 WL.st (cs:=xs.toArray) h hsc hx hy (by rw [row_set];exact hr) (Nat.ble_eq_true_of_le (by simp only [List.size_toArray];omega)) hv
theorem WL.stLA {t b k el:Nat} {xs us:List Value} {L':List HP} (h:WL P B n ops l Q e L') (hag:aggOk P t k=true) (hk:us.length=k) (hc:xs.length=k) (hsing:∀ v∈us,Value.single v=true) (hk0:Nat.ble 1 k=true:=by rfl)
  (hx:evo e x=some (.pointer (some ⟨b,0,none⟩)):=by rfl) (hy:evo e y=some (.agg us.toArray):=by rfl)
  (hr:Repl L (row b el xs) (row b el us) L':=by repeat (first | exact .here | apply Repl.there)) :
  WL P B n ops (⟨none,.store t x y,ty,pos,af,none⟩ :: l) Q e L :=
 WL.stV h hag hx hy hr hk0 (by simpa using hk) (by simpa using hc) (by simpa [List.all_eq_true] using hsing)
theorem WL.boxL {t:Nat} {us:List Value} (h:∀ b,WL P B n ops l Q ((d,.pointer (some ⟨b,0,none⟩)) :: e) (row b t us :: L)) (hx:evo e x=some (.agg us.toArray):=by rfl) (hd:Nat.ble (d+1) n.k=true:=by rfl) :
  WL P B n ops (⟨some d,.box t x,ty,pos,af,none⟩ :: l) Q e L:=WL.box (v:=.agg us.toArray) h hx hd
theorem WL.allocL {t:Nat} {us:List Value} {cs:Array Value} (hz:zeroOf P t=some cs) (hc:cs=us.toArray) (h:∀ b,WL P B n ops l Q ((d,.pointer (some ⟨b,0,none⟩)) :: e) (row b t us :: L)) (hd:Nat.ble (d+1) n.k=true:=by rfl) :
  WL P B n ops (⟨some d,.alloc t,ty,pos,af,none⟩ :: l) Q e L:=by
 subst hc
 exact WL.alloc hz h hd
theorem RV.aggL {a t b el k:Nat} {xs:List Value} (h:look e a=some (.pointer (some ⟨b,0,none⟩))) (hag:aggOk P t k=true) (hm:Mem L (row b el xs)) (hk:xs.length=k):RV P e L (.cell a t) (.agg xs.toArray) :=
 RV.agg h hag hm (by simpa using hk)
attribute [irreducible] row
end
theorem ar226:arrOk Tryz.prog 226 3 11 1=true:=by kernel_rfl
theorem agg228:aggOk Tryz.prog 228 13=true:=by kernel_rfl
theorem agg226:aggOk Tryz.prog 226 11=true:=by kernel_rfl
theorem ptr126:ptrOk Tryz.prog 126=true:=by kernel_rfl
theorem fo266_0:fieldOk Tryz.prog 266 0 0=true:=by kernel_rfl
theorem fo266_2:fieldOk Tryz.prog 266 2 2=true:=by kernel_rfl
theorem bdStore (c a:Nat) (v1 v2 v3 v4 v5 v6 v7:Int):BuildOk Tryz.prog 266 [(0,.pointer (some ⟨c,0,none⟩)),(1,.pointer (some ⟨a,0,none⟩)),(2,.agg #[.int .i64 v1,.int .i64 v2,.int .i64 v3,.int .i64 v4,.int .i64 v5,.int .i64 v6,.int .i64 v7])] #[.pointer (some ⟨c,0,none⟩),.pointer (some ⟨a,0,none⟩),.int .i64 v1,.int .i64 v2,.int .i64 v3,.int .i64 v4,.int .i64 v5,.int .i64 v6,.int .i64 v7]:=fun w=>by kernel_rfl
def stO (c a:Nat) (p:Pl):Obj:=.cells #[.pointer (some ⟨c,0,none⟩),.pointer (some ⟨a,0,none⟩),.int .i64 (p.n:Int),.int .i64 (p.ino:Int),.int .i64 (p.im:Int),.int .i64 (p.bm:Int),.int .i64 (p.tb:Int),.int .i64 (p.da:Int),.int .i64 (p.dc:Int)] 266 (0,0)
def nI (n:Nat):Value:=.int .i64 (n:Int)
def ndL (x:Nd):List Value:=nI x.kd :: nI x.sz :: x.bl.map nI
def ndV (x:Nd):Value:=.agg (ndL x).toArray
theorem ndL_length {x:Nd} (h:x.bl.length=11):(ndL x).length=13:=by simp [ndL,h]
theorem ndL_single (x:Nd):∀ v∈ndL x,Value.single v=true:=by
 intro v hv
 unfold ndL at hv
 simp only [List.mem_cons,List.mem_map] at hv
 rcases hv with rfl | rfl | ⟨k,_,rfl⟩<;>rfl
theorem ndL_bl {x:Nd} {k:Nat} (h:k < x.bl.length):(ndL x)[2+k]?=some (nI (x.bl.getD k 0)):=by
 unfold ndL
 rw [show 2+k=k+1+1 from by omega,List.getElem?_cons_succ,List.getElem?_cons_succ,List.getElem?_map,List.getElem?_eq_getElem h,List.getD_eq_getElem?_getD,List.getElem?_eq_getElem h]
 rfl
theorem ndL_set {x:Nd} {k v:Nat}:(ndL x).set (2+k) (nI v)=ndL ⟨x.kd,x.sz,x.bl.set k v⟩:=by
 unfold ndL
 rw [show 2+k=k+1+1 from by omega,List.set_cons_succ,List.set_cons_succ,List.map_set]
theorem ndL_arr {x:Nd} (h:x.bl.length=11):((ndL x).drop 2).take 11=x.bl.map nI:=by
 unfold ndL
 rw [List.drop_succ_cons,List.drop_succ_cons,List.drop_zero,List.take_of_length_le (by simp [h])]
def nd0:Nd:=⟨0,0,List.replicate 11 0⟩
theorem zNd:zeroOf Tryz.prog 228=some (ndL nd0).toArray:=by kernel_rfl
theorem bdNdK (k:Nat):BuildOk Tryz.prog 228 [(0,nI k)] (ndL ⟨k,0,List.replicate 11 0⟩).toArray:=fun w=>by kernel_rfl
theorem bdStat (a b:Int):BuildOk Tryz.prog 51 [(0,.int .i64 a),(1,.int .i64 b)] #[.int .i64 a,.int .i64 b]:=fun w=>by kernel_rfl
theorem inNew {c a:Nat} {p:Pl}:Spec Tryz.prog 203 #[.pointer (some ⟨c,0,none⟩),.pointer (some ⟨a,0,none⟩),.agg p.cells] [] fun F v M=>∃ s,v=.pointer (some ⟨s,0,none⟩)/\M=pt s (stO c a p) :: F:=by
 refine Spec.intro Tryz.func203 rfl rfl fun B F=>?_
 simp only [Tryz.ntmps203,List.cons_append,List.nil_append,env0,Nat.reduceAdd]
 refine .sr ?_
 refine .box fun b5=>?_
 refine .assign (.x (.move (.move ?_)))
 refine .ldA ?_ agg199
 refine .build ?_ (bdStore _ _ _ _ _ _ _ _ _)
 refine .box fun b11=>?_
 refine .assign (.z ?_)
 refine .ret (?_)
 exact .ret1 (h1:=.tmp (t:=6) rfl) ⟨_,⟨_,rfl,rfl⟩,Am.auto⟩
theorem inReady {s c a n:Nat} {p:Pl} {V0 V:Nat->Bytes} {D:List Nat} {op:Bool}:Spec Tryz.prog 210 #[.pointer (some ⟨s,0,none⟩)] [pt s (stO c a p),TR c n V0 V D op] fun F v M=>v=.bool op/\M=[pt s (stO c a p),TR c n V0 V D op]++F:=by
 refine Spec.intro Tryz.func210 rfl rfl fun B F=>?_
 simp only [Tryz.ntmps210,List.cons_append,List.nil_append,env0,Nat.reduceAdd]
 refine .sr (.assign (.x (.move ?_)))
 refine .neNil ?_ ptr126
 refine .move ?_
 refine .gT ?_
 refine .move ?_
 refine .gT ?_
 refine .nilCheck ?_
 refine .gT ?_
 refine .fa ?_ fo266_0
 refine .gT ?_
 refine .ld ?_ sc124
 refine .gT ?_
 refine .call (hc:=Tryz.call205) (sp:=tOpen (n:=n) (V0:=V0) (V:=V) (D:=D) (op:=op)) (h:=?_)
 rintro _ _ ⟨rfl,rfl⟩
 refine .pickT ?_
 refine .assign (.z ?_)
 refine .ret (?_)
 exact .ret1 (h1:=.tmp (t:=2) rfl) ⟨_,⟨rfl,rfl⟩,Am.auto⟩
theorem inPlace {s c a i:Nat} {p:Pl} (hi:i<=100000) (ht:p.tb<=65536):Spec Tryz.prog 230 #[.pointer (some ⟨s,0,none⟩),nI i] [pt s (stO c a p)] fun F v M=>v=.tuple #[nI (p.tb+i / 8),nI (i % 8 * 64)]/\M=pt s (stO c a p) :: F:=by
 refine Spec.intro Tryz.func230 rfl rfl fun B F=>?_
 simp only [Tryz.ntmps230,List.cons_append,List.nil_append,env0,Nat.reduceAdd]
 unfold nI
 refine .sr (.assign (.assign (.x (.move ?_))))
 refine .nilCheck ?_
 refine .fa ?_ fo266_2
 refine .fa ?_ fo199_4
 refine .ld ?_ sc3
 refine .move ?_
 refine .quo ?_
 refine .add ?_
 refine .cast (d:=13) (u:=.int .i64 ((p.tb+i / 8:Nat):Int)) rfl (congrArg (Value.int .i64) (by omega)) ?_
 refine .move ?_
 refine .rem ?_
 refine .mul ?_
 refine .cast (d:=16) (u:=.int .i64 ((i % 8 * 64:Nat):Int)) rfl (congrArg (Value.int .i64) (by omega)) ?_
 refine .assign (.assign (.z ?_))
 refine .ret (?_)
 exact .ret2 (h1:=.tmp (t:=4) rfl) (h2:=.tmp (t:=5) rfl) ⟨_,⟨rfl,rfl⟩,Am.auto⟩
theorem inGet {R:HP} {A:Addr} {n c:Nat} {xs:Bytes} {q:Nat} (hR:Reads R (some A) (bvs xs)) (hn:xs.length=n) (hl:n<=1073741824) (hq:q+4<=n):Spec Tryz.prog 252 #[.slice (some A) n c,nI q] [R] fun F v M=>v=nI (num xs q)/\M=R :: F:=by
 refine Spec.intro Tryz.func252 rfl rfl fun B F=>?_
 simp only [Tryz.ntmps252,List.cons_append,List.nil_append,env0,Nat.reduceAdd]
 have hlt:=num_lt xs q
 have hq2:q+4<=xs.length:=by omega
 refine .sr (.assign (.x (.move (.move ?_))))
 refine .call (hc:=Tryz.call143) (sp:=bitsGet (p:=(q:Int)) hR hn hl (by omega) (by omega) (by omega)) (h:=?_)
 rintro _ _ ⟨rfl,rfl⟩
 refine .move ?_
 refine .extract ?_
 refine .extract ?_
 refine .assign (.assign (.x (.move ?_)))
 refine .cvt ?_ un134 un3
 refine .cast (d:=14) (u:=nI (num xs q)) rfl (congrArg (Value.int .i64) (by rw [show ((q:Int)).toNat=q from by omega,show (4:Int).toNat=4 from rfl,num_seg hq2];exact IntWalk.i64_in _ (by omega))) ?_
 refine .assign (.z ?_)
 refine .ret (?_)
 exact .ret1 (h1:=.tmp (t:=4) rfl) ⟨_,⟨rfl,rfl⟩,Am.auto⟩
theorem inPut {R:HP} {A:Addr} {n c:Nat} {xs:Bytes} {q v:Nat} (hR:Reads R (some A) (bvs xs)) (hn:xs.length=n) (hl:n<=1073741824) (hq:q+4<=n) (hv:v < 2 ^ 63):Spec Tryz.prog 231 #[.slice (some A) n c,nI q,nI v] [R] fun F u M=>∃ b k,(u=.slice (some ⟨b,0,none⟩) n k/\n<=k/\k<=maxLen)/\M=buf b 5 k (bvs (put4 xs q v)) :: R :: F:=by
 refine Spec.intro Tryz.func231 rfl rfl fun B F=>?_
 simp only [Tryz.ntmps231,List.cons_append,List.nil_append,env0,Nat.reduceAdd]
 refine .sr (.assign (.x (.move (.move (.move ?_)))))
 refine .cvt ?_ un3 un134
 refine .cast (d:=13) (u:=.int .u64 (v:Int)) rfl (congrArg (Value.int .u64) (IntWalk.u64_in _ (by omega))) ?_
 refine .call (hc:=Tryz.call74) (sp:=bitsPut (p:=(q:Int)) (v:=v) hR hn hl (by omega) (by omega) (by omega) (by omega)) (h:=?_)
 rintro _ _ ⟨gb,kb,⟨rfl,hk1,hk2⟩,rfl⟩
 rw [show ((q:Int)).toNat=q from by omega,show (4:Int).toNat=4 from rfl]
 refine .move ?_
 refine .extract ?_
 refine .extract ?_
 refine .assign (.assign (.x (.move (.assign (.z ?_)))))
 refine .ret (?_)
 exact .ret1 (h1:=.tmp (t:=6) rfl) ⟨_,⟨_,_,⟨rfl,hk1,hk2⟩,rfl⟩,Am.auto⟩
theorem inData {k:Nat} (hk:k<=1000000):Spec Tryz.prog 228 #[nI k] [] fun F v M=>v=nI (dat k)/\M=F:=by
 refine Spec.intro Tryz.func228 rfl rfl fun B F=>?_
 simp only [Tryz.ntmps228,List.cons_append,List.nil_append,env0,Nat.reduceAdd]
 unfold nI dat
 refine .sr (.assign (.x (.move ?_)))
 refine .add ?_
 refine .sub ?_
 refine .quo ?_
 refine .cast (d:=6) (u:=.int .i64 (((k+511) / 512:Nat):Int)) rfl (congrArg (Value.int .i64) (by omega)) ?_
 refine .assign (.z ?_)
 refine .ret (?_)
 exact .ret1 (h1:=.tmp (t:=2) rfl) ⟨_,⟨rfl,rfl⟩,Am.auto⟩
theorem inHas {k:Nat} (hk:k<=1000000):Spec Tryz.prog 227 #[nI k] [] fun F v M=>v=nI (has k)/\M=F:=by
 refine Spec.intro Tryz.func227 rfl rfl fun B F=>?_
 simp only [Tryz.ntmps227,List.cons_append,List.nil_append,env0,Nat.reduceAdd]
 have hd:dat k<=2000:=by unfold dat;omega
 by_cases h10:dat k<=10
 ·refine .sr (.assign (.z (.seq (.sr (.move ?_)))))
  refine .call (hc:=Tryz.call228) (sp:=inData (k:=k) hk) (h:=?_)
  rintro _ _ ⟨rfl,rfl⟩
  refine .assign (.x (.move ?_))
  refine .leq ?_
  refine .z ?_
  refine .condT rfl (congrArg Value.bool (by first|simp;done|simp;omega|omega)) ?_
  refine .sr (.move (.assign (.z ?_)))
  refine .ret (.thenRet (?_))
  exact .ret1 (h1:=.tmp (t:=2) rfl) ⟨_,⟨by unfold has;rw [if_pos h10],rfl⟩,Am.auto⟩
 ·refine .sr (.assign (.z (.seq (.sr (.move ?_)))))
  refine .call (hc:=Tryz.call228) (sp:=inData (k:=k) hk) (h:=?_)
  rintro _ _ ⟨rfl,rfl⟩
  refine .assign (.x (.move ?_))
  refine .leq ?_
  refine .z ?_
  refine .condF rfl (congrArg Value.bool (by first|simp;done|simp;omega|omega)) ?_
  refine .skip (.next (.sr (.move ?_)))
  refine .call (hc:=Tryz.call228) (sp:=inData (k:=k) hk) (h:=?_)
  rintro _ _ ⟨rfl,rfl⟩
  refine .add ?_
  refine .cast (d:=11) (u:=nI (has k)) rfl (by unfold has nI;rw [if_neg h10];exact congrArg (Value.int .i64) (by omega)) ?_
  refine .assign (.z ?_)
  refine .ret (?_)
  exact .ret1 (h1:=.tmp (t:=2) rfl) ⟨_,⟨rfl,rfl⟩,Am.auto⟩
theorem alInode {a c:Nat} {i:Int} {p:Pl} {V0 V:Nat->Bytes} {D:List Nat} {op:Bool} (h:PlOk p):Spec Tryz.prog 251 #[.pointer (some ⟨a,0,none⟩),.int .i64 i] [pt a (alO c p),TR c p.n V0 V D op] fun F v M=>v=.bool (decide (0<=i/\i < p.ino/\(i=0 ∨ dig V p.im i.toNat=true)))/\M=[pt a (alO c p),TR c p.n V0 V D op]++F:=by
 refine Spec.intro Tryz.func251 rfl rfl fun B F=>?_
 simp only [Tryz.ntmps251,List.cons_append,List.nil_append,env0,Nat.reduceAdd]
 have hlo:=h.aI.lo
 have hhi:=h.aI.hi
 have hn2:=h.aI.n2
 have hi2:=h.i2
 have hap:=h.apart
 rcases (show i < 0 ∨ (0<=i/\(p.ino:Int)<=i) ∨ i=0/\i < (p.ino:Int) ∨ (0 < i/\i < (p.ino:Int)) from by omega) with hc | hc | hc | hc
 ·refine .sr (.assign (.z (.seq (.sr (.move ?_)))))
  refine .eqNil ?_ ptr125
  refine .move ?_
  refine .gT ?_
  refine .move ?_
  refine .gT ?_
  refine .lss ?_
  refine .pickF ?_
  refine .move ?_
  refine .cast (d:=13) (u:=.bool true) rfl (congrArg Value.bool (by first|simp;done|simp;omega|omega)) ?_
  refine .gF ?_
  refine .gF ?_
  refine .gF ?_
  refine .gF ?_
  refine .gF ?_
  refine .gF ?_
  refine .gF ?_
  refine .pickT ?_
  refine .z ?_
  refine .condT rfl rfl ?_
  refine .sr (.assign (.z ?_))
  refine .ret (.thenRet (?_))
  exact .ret1 (h1:=.tmp (t:=4) rfl) ⟨_,⟨congrArg Value.bool (by symm;exact decide_eq_false (by omega)),rfl⟩,Am.auto⟩
 ·refine .sr (.assign (.z (.seq (.sr (.move ?_)))))
  refine .eqNil ?_ ptr125
  refine .move ?_
  refine .gT ?_
  refine .move ?_
  refine .gT ?_
  refine .lss ?_
  refine .pickF ?_
  refine .move ?_
  refine .cast (d:=13) (u:=.bool false) rfl (congrArg Value.bool (by first|simp;done|simp;omega|omega)) ?_
  refine .gT ?_
  refine .move ?_
  refine .gT ?_
  refine .move ?_
  refine .gT ?_
  refine .nilCheck ?_
  refine .gT ?_
  refine .fa ?_ fo308_1
  refine .gT ?_
  refine .fa ?_ fo199_1
  refine .gT ?_
  refine .ld ?_ sc3
  refine .gT ?_
  refine .geq ?_
  refine .pickF ?_
  refine .z ?_
  refine .condT rfl (congrArg Value.bool (by first|simp;done|simp;omega|omega)) ?_
  refine .sr (.assign (.z ?_))
  refine .ret (.thenRet (?_))
  exact .ret1 (h1:=.tmp (t:=4) rfl) ⟨_,⟨congrArg Value.bool (by symm;exact decide_eq_false (by omega)),rfl⟩,Am.auto⟩
 ·obtain ⟨m,rfl⟩:∃ m:Nat,i=(m:Int):=⟨i.toNat,by omega⟩
  refine .sr (.assign (.z (.seq (.sr (.move ?_)))))
  refine .eqNil ?_ ptr125
  refine .move ?_
  refine .gT ?_
  refine .move ?_
  refine .gT ?_
  refine .lss ?_
  refine .pickF ?_
  refine .move ?_
  refine .cast (d:=13) (u:=.bool false) rfl (congrArg Value.bool (by first|simp;done|simp;omega|omega)) ?_
  refine .gT ?_
  refine .move ?_
  refine .gT ?_
  refine .move ?_
  refine .gT ?_
  refine .nilCheck ?_
  refine .gT ?_
  refine .fa ?_ fo308_1
  refine .gT ?_
  refine .fa ?_ fo199_1
  refine .gT ?_
  refine .ld ?_ sc3
  refine .gT ?_
  refine .geq ?_
  refine .pickF ?_
  refine .z ?_
  refine .condF rfl (congrArg Value.bool (by first|simp;done|simp;omega|omega)) ?_
  refine .skip (.next (.seq ?_))
  refine .dr ([pt a (alO c p)]) [] 18 mixed .autoJ ?_
  refine .tk 0 rfl .move ?_
  refine .tk 1 rfl .nilCheck ?_
  refine .tk 2 rfl (.fa fo308_0) ?_
  refine .tk 3 rfl (.ld sc124) ?_
  refine .tk 4 rfl .move ?_
  refine .tk 5 rfl .nilCheck ?_
  refine .tk 6 rfl (.fa fo308_1) ?_
  refine .tk 7 rfl (.fa fo199_2) ?_
  refine .tk 8 rfl (.ld sc3) ?_
  refine .tk 9 rfl .move ?_
  refine .tk 10 rfl .quo ?_
  refine .tk 11 rfl ((Qt.add).eq (v':=nI (p.im+m / 4096)) (congrArg (Value.int .i64) (by omega))) ?_
  refine .on 12 rfl fun hnp=>?_
  refine .call (hc:=Tryz.call183) (sp:=tRead (n:=p.n) (V0:=V0) (V:=V) (D:=D) (op:=op) (k:=p.im+m / 4096) (by omega) (by omega)) (h:=?_)
  rintro _ _ ⟨gb,q,el,rfl,⟨hq1,hq2,hl5⟩,rfl⟩
  refine .nil (.wa hnp ?_)
  refine .tk 13 rfl .move ?_
  refine .tk 14 rfl .extract ?_
  refine .tk 15 rfl .extract ?_
  refine .tk 16 rfl .assign ?_
  refine .tk 17 rfl .assign ?_
  refine .fin ?_
  refine .next (.sr (.move ?_))
  refine .eqi ?_
  refine .move ?_
  refine .cast (d:=40) (u:=.bool true) rfl (congrArg Value.bool (by first|simp;done|simp;omega|omega)) ?_
  refine .gF ?_
  refine .gF ?_
  refine .gF ?_
  refine .gF ?_
  refine .pickT ?_
  refine .assign (.z ?_)
  refine .ret (?_)
  exact .ret1 (h1:=.tmp (t:=4) rfl) ⟨_,⟨congrArg Value.bool (by symm;exact decide_eq_true (by omega)),rfl⟩,Am.auto⟩
 ·obtain ⟨m,rfl⟩:∃ m:Nat,i=(m:Int):=⟨i.toNat,by omega⟩
  refine .sr (.assign (.z (.seq (.sr (.move ?_)))))
  refine .eqNil ?_ ptr125
  refine .move ?_
  refine .gT ?_
  refine .move ?_
  refine .gT ?_
  refine .lss ?_
  refine .pickF ?_
  refine .move ?_
  refine .cast (d:=13) (u:=.bool false) rfl (congrArg Value.bool (by first|simp;done|simp;omega|omega)) ?_
  refine .gT ?_
  refine .move ?_
  refine .gT ?_
  refine .move ?_
  refine .gT ?_
  refine .nilCheck ?_
  refine .gT ?_
  refine .fa ?_ fo308_1
  refine .gT ?_
  refine .fa ?_ fo199_1
  refine .gT ?_
  refine .ld ?_ sc3
  refine .gT ?_
  refine .geq ?_
  refine .pickF ?_
  refine .z ?_
  refine .condF rfl (congrArg Value.bool (by first|simp;done|simp;omega|omega)) ?_
  refine .skip (.next (.seq ?_))
  refine .dr ([pt a (alO c p)]) [] 18 mixed .autoJ ?_
  refine .tk 0 rfl .move ?_
  refine .tk 1 rfl .nilCheck ?_
  refine .tk 2 rfl (.fa fo308_0) ?_
  refine .tk 3 rfl (.ld sc124) ?_
  refine .tk 4 rfl .move ?_
  refine .tk 5 rfl .nilCheck ?_
  refine .tk 6 rfl (.fa fo308_1) ?_
  refine .tk 7 rfl (.fa fo199_2) ?_
  refine .tk 8 rfl (.ld sc3) ?_
  refine .tk 9 rfl .move ?_
  refine .tk 10 rfl .quo ?_
  refine .tk 11 rfl ((Qt.add).eq (v':=nI (p.im+m / 4096)) (congrArg (Value.int .i64) (by omega))) ?_
  refine .on 12 rfl fun hnp=>?_
  refine .call (hc:=Tryz.call183) (sp:=tRead (n:=p.n) (V0:=V0) (V:=V) (D:=D) (op:=op) (k:=p.im+m / 4096) (by omega) (by omega)) (h:=?_)
  rintro _ _ ⟨gb,q,el,rfl,⟨hq1,hq2,hl5⟩,rfl⟩
  refine .nil (.wa hnp ?_)
  refine .tk 13 rfl .move ?_
  refine .tk 14 rfl .extract ?_
  refine .tk 15 rfl .extract ?_
  refine .tk 16 rfl .assign ?_
  refine .tk 17 rfl .assign ?_
  refine .fin ?_
  refine .next (.sr (.move ?_))
  refine .eqi ?_
  refine .move ?_
  refine .cast (d:=40) (u:=.bool false) rfl (congrArg Value.bool (by first|simp;done|simp;omega|omega)) ?_
  refine .gT ?_
  refine .move ?_
  refine .gT ?_
  refine .move ?_
  refine .gT ?_
  refine .rem ?_
  refine .gT ?_
  refine .call (hc:=Tryz.call286) (sp:=bitsTest Reads.buf hl5 (by decide) (k:=(m:Int) % 4096) (by omega)) (h:=?_)
  rintro _ _ ⟨rfl,rfl⟩
  refine .pickF ?_
  refine .assign (.z ?_)
  refine .ret (?_)
  exact .ret1 (h1:=.tmp (t:=4) rfl) ⟨_,⟨congrArg Value.bool (by rw [show ((m:Int) % 4096).toNat=m % 4096 from by omega,Int.toNat_natCast];show tb (V (p.im+m / 4096)) (m % 4096)=_;rw [show tb (V (p.im+m / 4096)) (m % 4096)=dig V p.im m from rfl];cases dig V p.im m<;>simp<;>omega),rfl⟩,Am.auto⟩
theorem fo266_1:fieldOk Tryz.prog 266 1 1=true:=by kernel_rfl
theorem fo228_0:fieldOk Tryz.prog 228 0 0=true:=by kernel_rfl
theorem fo228_1:fieldOk Tryz.prog 228 1 1=true:=by kernel_rfl
theorem fo228_2:fieldOk Tryz.prog 228 2 2=true:=by kernel_rfl
def rng0 (f:Nat->Nat) (k:Nat):List Nat:=(List.range 11).map fun j=>if j < k then f j else 0
theorem rng0_all (f:Nat->Nat):rng0 f 11=(List.range 11).map f:=by
 unfold rng0
 apply List.map_congr_left
 intro j hj
 rw [if_pos (List.mem_range.1 hj)]
theorem rng0_set (f:Nat->Nat) {k:Nat} (h:k < 11):(rng0 f k).set k (f k)=rng0 f (k+1):=by
 apply List.ext_getElem
 ·simp [rng0]
 ·intro j h1 h2
  simp only [rng0,List.getElem_set,List.getElem_map,List.getElem_range]
  by_cases hj:k=j
  ·subst hj;rw [if_pos rfl,if_pos (by omega)]
  ·rw [if_neg hj]
   by_cases h3:j < k
   ·rw [if_pos h3,if_pos (by omega)]
   ·rw [if_neg h3,if_neg (by omega)]
theorem rng0_length (f:Nat->Nat) (k:Nat):(rng0 f k).length=11:=by simp [rng0]
theorem nums_take {x:Nd} {k:Nat} (h:k < x.bl.length):x.nums.take (2+(k+1))=x.nums.take (2+k)++[x.bl.getD k 0]:=by
 have:2+k < x.nums.length:=by simp [Nd.nums];omega
 rw [show 2+(k+1)=2+k+1 from by omega,List.take_add_one,List.getElem?_eq_getElem this]
 congr 1
 simp only [Nd.nums,show 2+k=k+1+1 from by omega,List.getElem_cons_succ,Option.toList_some,List.getD_eq_getElem?_getD,List.getElem?_eq_getElem h,Option.getD_some]
theorem inLoad {s c a:Nat} {p:Pl} {V0 V:Nat->Bytes} {D:List Nat} {op:Bool} {i:Nat} (ho:PlOk p) (hi:i < p.ino) (hd:i=0 ∨ dig V p.im i=true):Spec Tryz.prog 181 #[.pointer (some ⟨s,0,none⟩),nI i] [pt s (stO c a p),pt a (alO c p),TR c p.n V0 V D op] fun F v M=>v=.tuple #[ndV (ldN p V i),.int .i64 0]/\M=[pt s (stO c a p),pt a (alO c p),TR c p.n V0 V D op]++F:=by
 refine Spec.intro Tryz.func181 rfl rfl fun B F=>?_
 simp only [Tryz.ntmps181,List.cons_append,List.nil_append,env0,Nat.reduceAdd]
 have hi2:=ho.i2
 have htab:=ho.tab
 have hn2:=ho.aB.n2
 have hdat:=ho.dat
 have hlo:=ho.aB.lo
 have htbl:=ho.tbl
 have hblk:245<=p.tb+i / 8/\p.tb+i / 8 < p.n:=by omega
 have hat:i % 8 * 64+64<=512:=by omega
 refine .sr ?_
 refine .allocL zNd rfl fun b4=>?_
 refine .assign (.z (.seq (.sr (.move ?_))))
 refine .eqNil ?_ ptr126
 refine .move ?_
 refine .gT ?_
 refine .move ?_
 refine .gT ?_
 refine .nilCheck ?_
 refine .gT ?_
 refine .fa ?_ fo266_0
 refine .gT ?_
 refine .ld ?_ sc124
 refine .gT ?_
 refine .eqNil ?_ ptr124
 refine .pickF ?_
 refine .z ?_
 refine .condF rfl rfl ?_
 refine .skip (.next (.seq (.sr (.move ?_))))
 refine .nilCheck ?_
 refine .fa ?_ fo266_1
 refine .ld ?_ sc125
 refine .move ?_
 refine .call (hc:=Tryz.call251) (sp:=alInode (i:=(i:Int)) (V0:=V0) (V:=V) (D:=D) (op:=op) ho) (h:=?_)
 rintro _ _ ⟨rfl,rfl⟩
 refine .cast (d:=25) (u:=.bool true) rfl (congrArg Value.bool (decide_eq_true ⟨by omega,by omega,by rcases hd with h | h;exact .inl (by omega);exact .inr h⟩)) ?_
 refine .not ?_
 refine .z ?_
 refine .condF rfl rfl ?_
 refine .skip (.next (.sr (.move (.move ?_))))
 refine .call (hc:=Tryz.call230) (sp:=inPlace (i:=i) (p:=p) (by omega) (by omega)) (h:=?_)
 rintro _ _ ⟨rfl,rfl⟩
 refine .move ?_
 refine .extract ?_
 refine .extract ?_
 refine .assign (.assign (.x (.move ?_)))
 refine .nilCheck ?_
 refine .fa ?_ fo266_0
 refine .ld ?_ sc124
 refine .move ?_
 refine .call (hc:=Tryz.call183) (sp:=tRead (n:=p.n) (V0:=V0) (V:=V) (D:=D) (op:=op) (k:=p.tb+i / 8) hblk.1 hblk.2) (h:=?_)
 rintro _ _ ⟨gb,q,el,rfl,⟨hq1,hq2,hl5⟩,rfl⟩
 refine .move ?_
 refine .extract ?_
 refine .extract ?_
 refine .assign (.assign (.z (.seq (.sr (.move ?_)))))
 refine .nei ?_
 refine .z ?_
 refine .condF rfl rfl ?_
 refine .skip (.next (.sr (.move (.move ?_))))
 refine .call (hc:=Tryz.call252) (sp:=inGet (q:=i % 8 * 64) Reads.buf hl5 (by decide) (by omega)) (h:=?_)
 rintro _ _ ⟨rfl,rfl⟩
 refine .move (.move ?_)
 refine .add ?_
 refine .cast (d:=52) (u:=nI (i % 8 * 64+4)) rfl (congrArg (Value.int .i64) (by omega)) ?_
 refine .call (hc:=Tryz.call252) (sp:=inGet (q:=i % 8 * 64+4) Reads.buf hl5 (by decide) (by omega)) (h:=?_)
 rintro _ _ ⟨rfl,rfl⟩
 refine .fa ?_ fo228_0
 refine .stL (xs:=ndL nd0) (i:=0) ?_ sc3 (by decide)
 refine .to (A:=row b4 228 ((ndL nd0).set 0 (nI (num (V (p.tb+i / 8)) (i % 8 * 64))))) (A':=row b4 228 (ndL ⟨num (V (p.tb+i / 8)) (i % 8 * 64),0,List.replicate 11 0⟩)) (fun h hh=>hh) ?_
 refine .fa ?_ fo228_1
 refine .stL (xs:=ndL ⟨num (V (p.tb+i / 8)) (i % 8 * 64),0,List.replicate 11 0⟩) (i:=1) ?_ sc3 (by rw [ndL_length rfl];decide)
 refine .to (A:=row b4 228 ((ndL ⟨num (V (p.tb+i / 8)) (i % 8 * 64),0,List.replicate 11 0⟩).set 1 (nI (num (V (p.tb+i / 8)) (i % 8 * 64+4))))) (A':=row b4 228 (ndL ⟨num (V (p.tb+i / 8)) (i % 8 * 64),num (V (p.tb+i / 8)) (i % 8 * 64+4),List.replicate 11 0⟩)) (fun h hh=>hh) ?_
 refine .z (.seq (.sr (.move (.z (.block ?_)))))
 refine .loopA (σ:=Nat) (fun k=>[(0,.pointer (some ⟨s,0,none⟩)),(4,.pointer (some ⟨b4,0,none⟩)),(7,nI (i % 8 * 64)),(8,.slice (some ⟨gb,0,none⟩) 512 q),(56,nI k)]) (fun k=>[row b4 228 (ndL ⟨num (V (p.tb+i / 8)) (i % 8 * 64),num (V (p.tb+i / 8)) (i % 8 * 64+4),rng0 (fun k=>num (V (p.tb+i / 8)) (i % 8 * 64+8+4 * k)) k⟩),buf gb el q (bvs (V (p.tb+i / 8))),pt s (stO c a p),pt a (alO c p),TR c p.n V0 V D op]++F) (fun k=>k<=11) (fun k=>11 - k) 0 (by omega) ?_
 rintro k hk
 refine .sr ?_
 refine .lss ?_
 refine .z (.seq ?_)
 refine .cond rfl (fun hb=>?_) (fun hb=>?_)
 ·have hlt:k < 11:=by have:=of_decide_eq_true hb;omega
  refine .skip (.next (.seq (.block (.sr (.move (.assign (.y (.move (.move ?_)))))))))
  refine .move ?_
  refine .add ?_
  refine .move ?_
  refine .mul ?_
  refine .add ?_
  refine .cast (d:=65) (u:=nI (i % 8 * 64+8+4 * k)) rfl (congrArg (Value.int .i64) (by omega)) ?_
  refine .call (hc:=Tryz.call252) (sp:=inGet (q:=i % 8 * 64+8+4 * k) Reads.buf hl5 (by decide) (by omega)) (h:=?_)
  rintro _ _ ⟨rfl,rfl⟩
  refine .fa ?_ fo228_2
  refine .idxA ?_ ar226
  refine .stL ?_ sc3 (show 0+2+((k:Nat):Int).toNat * 1 < (ndL ⟨num (V (p.tb+i / 8)) (i % 8 * 64),num (V (p.tb+i / 8)) (i % 8 * 64+4),rng0 (fun k=>num (V (p.tb+i / 8)) (i % 8 * 64+8+4 * k)) k⟩).length by rw [ndL_length (rng0_length _ _)];omega)
  refine .to (A:=row b4 228 ((ndL ⟨num (V (p.tb+i / 8)) (i % 8 * 64),num (V (p.tb+i / 8)) (i % 8 * 64+4),rng0 (fun k=>num (V (p.tb+i / 8)) (i % 8 * 64+8+4 * k)) k⟩).set (0+2+((k:Nat):Int).toNat * 1) (nI (num (V (p.tb+i / 8)) (i % 8 * 64+8+4 * k))))) (A':=row b4 228 (ndL ⟨num (V (p.tb+i / 8)) (i % 8 * 64),num (V (p.tb+i / 8)) (i % 8 * 64+4),rng0 (fun k=>num (V (p.tb+i / 8)) (i % 8 * 64+8+4 * k)) (k+1)⟩)) (fun h hh=>by rw [show 0+2+((k:Nat):Int).toNat * 1=2+k from by omega,ndL_set,rng0_set (fun k=>num (V (p.tb+i / 8)) (i % 8 * 64+8+4 * k)) hlt] at hh;exact hh) ?_
  refine .nil (.blockNormal (.next (.region ?_)))
  refine .add ?_
  refine .move (.nil ?_)
  refine .cast (d:=56) (u:=nI (k+1)) rfl (congrArg (Value.int .i64) (by omega)) ?_
  exact .back (k+1) (by omega) (by omega)
 ·have hge:¬ k < 11:=by have:=of_decide_eq_false hb;omega
  have hk11:k=11:=by omega
  subst hk11
  refine .exit (.thenExit (.thenExit (.blockExit (?_))))
  refine .next (.sr ?_)
  refine .ldW (xs:=ndL ⟨num (V (p.tb+i / 8)) (i % 8 * 64),num (V (p.tb+i / 8)) (i % 8 * 64+4),rng0 (fun k=>num (V (p.tb+i / 8)) (i % 8 * 64+8+4 * k)) 11⟩) ?_ agg228 (ndL_length (rng0_length _ _))
  refine .stLA (xs:=ndL ⟨num (V (p.tb+i / 8)) (i % 8 * 64),num (V (p.tb+i / 8)) (i % 8 * 64+4),rng0 (fun k=>num (V (p.tb+i / 8)) (i % 8 * 64+8+4 * k)) 11⟩) (us:=ndL ⟨num (V (p.tb+i / 8)) (i % 8 * 64),num (V (p.tb+i / 8)) (i % 8 * 64+4),rng0 (fun k=>num (V (p.tb+i / 8)) (i % 8 * 64+8+4 * k)) 11⟩) ?_ agg228 (ndL_length (rng0_length _ _)) (ndL_length (rng0_length _ _)) (ndL_single _)
  refine .assign (.z ?_)
  refine .ret (?_)
  refine .to (A:=row b4 228 (ndL ⟨num (V (p.tb+i / 8)) (i % 8 * 64),num (V (p.tb+i / 8)) (i % 8 * 64+4),rng0 (fun k=>num (V (p.tb+i / 8)) (i % 8 * 64+8+4 * k)) 11⟩)) (A':=row b4 228 (ndL (ldN p V i))) (fun h hh=>by rw [rng0_all] at hh;exact hh) ?_
  exact .ret2 (h1:=RV.aggL rfl agg228 (by repeat (first | exact .here | apply Rem.there | apply Repl.there | apply Mem.there)) (ndL_length (ldB_fits _ _).bl)) (h2:=.tmp rfl) ⟨_,⟨rfl,rfl⟩,Am.auto⟩
theorem inLoadNo {s c a:Nat} {p:Pl} {V0 V:Nat->Bytes} {D:List Nat} {op:Bool} {i:Int} (ho:PlOk p) (hno:¬ (0<=i/\i < p.ino/\(i=0 ∨ dig V p.im i.toNat=true))):Spec Tryz.prog 181 #[.pointer (some ⟨s,0,none⟩),.int .i64 i] [pt s (stO c a p),pt a (alO c p),TR c p.n V0 V D op] fun F v M=>v=.tuple #[ndV nd0,.int .i64 4]/\M=[pt s (stO c a p),pt a (alO c p),TR c p.n V0 V D op]++F:=by
 refine Spec.intro Tryz.func181 rfl rfl fun B F=>?_
 simp only [Tryz.ntmps181,List.cons_append,List.nil_append,env0,Nat.reduceAdd]
 refine .sr ?_
 refine .allocL zNd rfl fun b4=>?_
 refine .assign (.z (.seq (.sr (.move ?_))))
 refine .eqNil ?_ ptr126
 refine .move ?_
 refine .gT ?_
 refine .move ?_
 refine .gT ?_
 refine .nilCheck ?_
 refine .gT ?_
 refine .fa ?_ fo266_0
 refine .gT ?_
 refine .ld ?_ sc124
 refine .gT ?_
 refine .eqNil ?_ ptr124
 refine .pickF ?_
 refine .z ?_
 refine .condF rfl rfl ?_
 refine .skip (.next (.seq (.sr (.move ?_))))
 refine .nilCheck ?_
 refine .fa ?_ fo266_1
 refine .ld ?_ sc125
 refine .move ?_
 refine .call (hc:=Tryz.call251) (sp:=alInode (i:=i) (V0:=V0) (V:=V) (D:=D) (op:=op) ho) (h:=?_)
 rintro _ _ ⟨rfl,rfl⟩
 refine .cast (d:=25) (u:=.bool false) rfl (congrArg Value.bool (decide_eq_false hno)) ?_
 refine .not ?_
 refine .z ?_
 refine .condT rfl rfl ?_
 refine .sr ?_
 refine .ldW (xs:=ndL nd0) ?_ agg228 rfl
 refine .stLA (xs:=ndL nd0) (us:=ndL nd0) ?_ agg228 rfl rfl (ndL_single _)
 refine .assign (.z ?_)
 refine .ret (.thenRet (?_))
 exact .ret2 (h1:=RV.aggL rfl agg228 (by repeat (first | exact .here | apply Rem.there | apply Repl.there | apply Mem.there)) rfl) (h2:=.tmp rfl) ⟨_,⟨rfl,rfl⟩,Am.auto⟩
theorem inSave {s c a:Nat} {p:Pl} {V0 V:Nat->Bytes} {D:List Nat} {i:Nat} {x:Nd} (ho:PlOk p) (hi:i < p.ino) (hf:Fits x) (hroom:Room D):Spec Tryz.prog 149 #[.pointer (some ⟨s,0,none⟩),nI i,ndV x] [pt s (stO c a p),TR c p.n V0 V D true] fun F v M=>v=okV/\M=[pt s (stO c a p),TR c p.n V0 (svV p V i x) (insD D (p.tb+i / 8)) true]++F:=by
 refine Spec.intro Tryz.func149 rfl rfl fun B F=>?_
 simp only [Tryz.ntmps149,List.cons_append,List.nil_append,env0,Nat.reduceAdd]
 have hi2:=ho.i2
 have htab:=ho.tab
 have hn2:=ho.aB.n2
 have hdat:=ho.dat
 have hlo:=ho.aB.lo
 have htbl:=ho.tbl
 have hblk:245<=p.tb+i / 8/\p.tb+i / 8 < p.n:=by omega
 have hat:i % 8 * 64+64<=512:=by omega
 have hbl:=hf.bl
 have hkd:x.kd < 2 ^ 63:=by have:=hf.lt x.kd (by simp [Nd.nums]);omega
 have hsz:x.sz < 2 ^ 63:=by have:=hf.lt x.sz (by simp [Nd.nums]);omega
 have hbk:∀ k,k < 11->x.bl.getD k 0 < 2 ^ 63:=by
  intro k hk
  have hk2:k < x.bl.length:=by omega
  have hm:x.bl.getD k 0∈x.nums:=by
   rw [List.getD_eq_getElem?_getD,List.getElem?_eq_getElem hk2]
   unfold Nd.nums
   simp
  have:=hf.lt _ hm
  omega
 refine .sr ?_
 refine .boxL (us:=ndL x) fun b5=>?_
 refine .assign (.x (.move (.move ?_)))
 refine .call (hc:=Tryz.call230) (sp:=inPlace (i:=i) (p:=p) (by omega) (by omega)) (h:=?_)
 rintro _ _ ⟨rfl,rfl⟩
 refine .move ?_
 refine .extract ?_
 refine .extract ?_
 refine .assign (.assign (.x (.move ?_)))
 refine .nilCheck ?_
 refine .fa ?_ fo266_0
 refine .ld ?_ sc124
 refine .move ?_
 refine .call (hc:=Tryz.call183) (sp:=tRead (n:=p.n) (V0:=V0) (V:=V) (D:=D) (op:=true) (k:=p.tb+i / 8) hblk.1 hblk.2) (h:=?_)
 rintro _ _ ⟨gb,q,el,rfl,⟨hq1,hq2,hl5⟩,rfl⟩
 refine .move ?_
 refine .extract ?_
 refine .extract ?_
 refine .assign (.assign (.z (.seq (.sr (.move ?_)))))
 refine .nei ?_
 refine .z ?_
 refine .condF rfl rfl ?_
 refine .skip (.next (.seq ?_))
 refine .dr ([row b5 228 (ndL x)]) [] 11 mixed .autoJ ?_
 refine .tk 0 rfl .move ?_
 refine .tk 1 rfl .move ?_
 refine .tk 2 rfl (.fa fo228_0) ?_
 refine .tk 3 rfl (Qt.ldL (i:=0) (v:=nI x.kd) sc3 rfl) ?_
 refine .tk 5 rfl .move ?_
 refine .tk 6 rfl ((Qt.add).eq (v':=nI (i % 8 * 64+4)) (congrArg (Value.int .i64) (by omega))) ?_
 refine .tk 7 rfl (.fa fo228_1) ?_
 refine .tk 8 rfl (Qt.ldL (i:=1) (v:=nI x.sz) sc3 rfl) ?_
 refine .on 4 rfl fun hnp=>?_
 refine .call (hc:=Tryz.call231) (sp:=inPut (q:=i % 8 * 64) (v:=x.kd) Reads.buf hl5 (by decide) (by omega) hkd) (h:=?_)
 rintro _ _ ⟨gc,kc,⟨rfl,hc1,hc2⟩,rfl⟩
 refine .nil (.wa hnp ?_)
 refine .on 9 rfl fun hnp=>?_
 refine .call (hc:=Tryz.call231) (sp:=inPut (q:=i % 8 * 64+4) (v:=x.sz) Reads.buf ((put4_length _ _ _).trans hl5) (by decide) (by omega) hsz) (h:=?_)
 rintro _ _ ⟨gd,kd,⟨rfl,hd1,hd2⟩,rfl⟩
 refine .nil (.wa hnp ?_)
 refine .tk 10 rfl .assign ?_
 refine .fin ?_
 refine .next (.seq (.sr ?_))
 refine .fa ?_ fo228_2
 refine .ldLA ?_ agg226 (ndL_arr hbl) (by rw [ndL_length hbl];decide)
 refine .move (.z (.block ?_))
 refine .loopA (σ:=Nat×Nat×Nat) (fun y=>[(0,.pointer (some ⟨s,0,none⟩)),(7,nI (p.tb+i / 8)),(8,nI (i % 8 * 64)),(9,.slice (some ⟨y.2.1,0,none⟩) 512 y.2.2),(42,.agg (x.bl.map nI).toArray),(43,nI y.1)]) (fun y=>[buf y.2.1 5 y.2.2 (bvs (putL (V (p.tb+i / 8)) (i % 8 * 64) (x.nums.take (2+y.1)))),pt s (stO c a p),TR c p.n V0 V D true]++F) (fun y=>y.1<=11/\512<=y.2.2/\y.2.2<=maxLen) (fun y=>11 - y.1) (0,gd,kd) ⟨Nat.zero_le _,hd1,hd2⟩ ?_
 rintro ⟨k,ge0,ke0⟩ hk
 obtain ⟨hk,hk1,hk2⟩:=hk
 refine .sr ?_
 refine .lss ?_
 refine .z (.seq ?_)
 refine .cond rfl (fun hb=>?_) (fun hb=>?_)
 ·have hlt:k < 11:=by have:=of_decide_eq_true hb;omega
  have hlen:(putL (V (p.tb+i / 8)) (i % 8 * 64) (x.nums.take (2+k))).length=512:=(putL_length _ _ _).trans hl5
  refine .skip (.next (.seq (.block (.sr (.move ?_)))))
  refine .ixV (v:=nI (x.bl.getD k 0)) ?_ ar226 sc3 (by rw [show ((k:Nat):Int).toNat=k from by omega,List.getElem?_toArray,List.getElem?_map,List.getD_eq_getElem?_getD,List.getElem?_eq_getElem (show k < x.bl.length by omega)];rfl)
  refine .assign (.assign (.y (.move (.move ?_))))
  refine .add ?_
  refine .move ?_
  refine .mul ?_
  refine .add ?_
  refine .cast (d:=52) (u:=nI (i % 8 * 64+8+4 * k)) rfl (congrArg (Value.int .i64) (by omega)) ?_
  refine .move ?_
  refine .call (hc:=Tryz.call231) (sp:=inPut (q:=i % 8 * 64+8+4 * k) (v:=x.bl.getD k 0) Reads.buf hlen (by decide) (by omega) (hbk k hlt)) (h:=?_)
  rintro _ _ ⟨ge,ke,⟨rfl,he1,he2⟩,rfl⟩
  refine .assign (.nil (.blockNormal (.next (.region ?_))))
  refine .add ?_
  refine .move (.nil ?_)
  refine .cast (d:=43) (u:=nI (k+1)) rfl (congrArg (Value.int .i64) (by omega)) ?_
  refine .to (A:=buf ge 5 ke (bvs (put4 (putL (V (p.tb+i / 8)) (i % 8 * 64) (x.nums.take (2+k))) (i % 8 * 64+8+4 * k) (x.bl.getD k 0)))) (A':=buf ge 5 ke (bvs (putL (V (p.tb+i / 8)) (i % 8 * 64) (x.nums.take (2+(k+1)))))) (fun h hh=>by rw [nums_take (by omega),putL_snoc,show i % 8 * 64+4 * (x.nums.take (2+k)).length=i % 8 * 64+8+4 * k from by simp [Nd.nums,hbl];omega];exact hh) ?_
  exact .back (k+1,ge,ke) ⟨by show k+1<=11;omega,he1,he2⟩ (by show 11 - (k+1) < 11 - k;omega)
 ·have hge:¬ k < 11:=by have:=of_decide_eq_false hb;omega
  have hk11:k=11:=by omega
  subst hk11
  have hall:x.nums.take (2+11)=x.nums:=List.take_of_length_le (by simp [Nd.nums,hbl])
  refine .exit (.thenExit (.thenExit (.blockExit (?_))))
  refine .next (.sr (.move ?_))
  refine .nilCheck ?_
  refine .fa ?_ fo266_0
  refine .ld ?_ sc124
  refine .move (.move ?_)
  refine .call (hc:=Tryz.call135) (sp:=tWrite (n:=p.n) (V0:=V0) (V:=V) (D:=D) (k:=p.tb+i / 8) hblk.1 hblk.2 Reads.buf ((putL_length _ _ _).trans hl5) rfl (.inr hroom)) (h:=?_)
  rintro _ _ ⟨rfl,rfl⟩
  refine .assign (.z ?_)
  refine .ret (?_)
  refine .to (A:=TR c p.n V0 (wr V (p.tb+i / 8) (putL (V (p.tb+i / 8)) (i % 8 * 64) (x.nums.take (2+11)))) (insD D (p.tb+i / 8)) true) (A':=TR c p.n V0 (svV p V i x) (insD D (p.tb+i / 8)) true) (fun h hh=>by rw [hall] at hh;exact hh) ?_
  exact .ret1 (h1:=.tmp (t:=6) rfl) ⟨_,⟨rfl,rfl⟩,Am.auto⟩
theorem cntB_true {f:Nat->Bool} {b:Nat} (h:f b=false):∀ n,cntB (setF f b true) n=cntB f n+(if b < n then 1 else 0)
 | 0=>rfl
 | n+1=>by
  have ih:=cntB_true h n
  unfold cntB at ih ⊢
  rw [List.range_succ,List.filter_append,List.filter_append,List.length_append,List.length_append,ih]
  by_cases hb:b=n
  ·subst hb
   have h1:setF f b true b=true:=if_pos rfl
   simp [h,h1]
  ·have h1:setF f b true n=f n:=if_neg (fun hh=>hb hh.symm)
   have h2:[n].filter (setF f b true)=[n].filter f:=by simp only [List.filter_cons,List.filter_nil,h1]
   rw [h2]
   by_cases h2:b < n
   ·rw [if_pos h2,if_pos (by omega)];omega
   ·rw [if_neg h2,if_neg (by omega)];omega
theorem cntB_false {f:Nat->Bool} {b:Nat} (h:f b=true):∀ n,cntB (setF f b false) n+(if b < n then 1 else 0)=cntB f n
 | 0=>rfl
 | n+1=>by
  have ih:=cntB_false h n
  unfold cntB at ih ⊢
  rw [List.range_succ,List.filter_append,List.filter_append,List.length_append,List.length_append,<-ih]
  by_cases hb:b=n
  ·subst hb
   have h1:setF f b false b=false:=if_pos rfl
   simp [h,h1]
  ·have h1:setF f b false n=f n:=if_neg (fun hh=>hb hh.symm)
   have h2:[n].filter (setF f b false)=[n].filter f:=by simp only [List.filter_cons,List.filter_nil,h1]
   rw [h2]
   by_cases h2:b < n
   ·rw [if_pos h2,if_pos (by omega)];omega
   ·rw [if_neg h2,if_neg (by omega)];omega
theorem cnt_true {V V':Nat->Bytes} {first n b:Nat} (hb:b < n) (h0:dig V first b=false) (h:∀ k,k < n->dig V' first k=if k=b then true else dig V first k):cnt V' first n=cnt V first n+1:=by
 have h1:=cntB_true (f:=fun k=>dig V first k) h0 n
 rw [if_pos hb] at h1
 rw [cnt_cntB (f:=setF (fun k=>dig V first k) b true) (fun k hk=>h k hk),h1]
 rfl
theorem cnt_false {V V':Nat->Bytes} {first n b:Nat} (hb:b < n) (h0:dig V first b=true) (h:∀ k,k < n->dig V' first k=if k=b then false else dig V first k):cnt V' first n+1=cnt V first n:=by
 have h1:=cntB_false (f:=fun k=>dig V first k) h0 n
 rw [if_pos hb] at h1
 rw [cnt_cntB (f:=setF (fun k=>dig V first k) b false) (fun k hk=>h k hk),h1]
 rfl
theorem cnt_same {V V':Nat->Bytes} {first n:Nat} (h:∀ k,k < n->dig V' first k=dig V first k):cnt V' first n=cnt V first n :=
 cnt_cntB (f:=fun k=>dig V first k) h
theorem cnt_full {V:Nat->Bytes} {first n:Nat} (h:∀ k,k < n->dig V first k=true):cnt V first n=n:=by
 unfold cnt
 rw [List.filter_eq_self.2 (fun k hk=>h k (List.mem_range.1 hk)),List.length_range]
theorem zeros_getD (i:Nat):zeros.getD i 0=0:=by
 unfold zeros
 rw [List.getD_eq_getElem?_getD,List.getElem?_replicate]
 split<;>rfl
def frV (p:Pl) (V:Nat->Bytes) (b:Nat):Nat->Bytes:=wr (setD V p.bm b true) (p.da+b) zeros
theorem frV_new (p:Pl) (V:Nat->Bytes) (b:Nat):frV p V b (p.da+b)=zeros:=wr_same ..
theorem frV_other {p:Pl} {V:Nat->Bytes} {b v:Nat} (h1:v≠p.da+b) (h2:v≠p.bm+b / 4096):frV p V b v=V v:=by
 unfold frV
 rw [wr_other _ _ h1]
 exact wr_other _ _ h2
theorem frV_len {p:Pl} {V:Nat->Bytes} (h:Len5 V) (b:Nat):Len5 (frV p V b):=wr_len (setD_len h _ _ _) _ zeros_length
theorem PlOk.mapAt {p:Pl} (ho:PlOk p) {b:Nat} (hb:b < p.dc):p.bm+b / 4096 < p.tb:=by
 have:=ho.tbl;omega
theorem PlOk.tbda {p:Pl} (ho:PlOk p):p.tb+1<=p.da:=by
 have:=ho.tab;have:=ho.i1;omega
theorem frV_dig {p:Pl} {V:Nat->Bytes} (ho:PlOk p) (h:Len5 V) {b k:Nat} (hb:b < p.dc) (hk:k < p.dc):dig (frV p V b) p.bm k=if k=b then true else dig V p.bm k:=by
 have h1:=ho.mapAt hk
 have h2:=ho.tbda
 rw [<- dig_setD h]
 unfold dig frV
 rw [wr_other _ _ (by omega)]
theorem frV_imap {p:Pl} {V:Nat->Bytes} (ho:PlOk p) {b k:Nat} (hb:b < p.dc) (hk:k < p.ino):dig (frV p V b) p.im k=dig V p.im k:=by
 have h1:=ho.mapAt hb
 have h2:=ho.tbda
 have h3:=ho.apart
 have h4:=ho.i2
 unfold dig
 rw [frV_other (by omega) (by omega)]
theorem Inv.free {p:Pl} {V:Nat->Bytes} {nd:NF} (h:Inv p V nd) {b:Nat} (hb:b < p.dc) (hd:dig V p.bm b=false) {j:Nat} {y:Nd} {T:Nat->Bool} {k:Nat} (hj:nd j=some (y,T)) (hk:T k=true):ptr V y k≠p.da+b:=fun he=>by
 have:=(h.map b hb).2 ⟨j,y,T,k,hj,hk,he⟩
 rw [hd] at this;cases this
theorem frV_held {p:Pl} {V:Nat->Bytes} {nd:NF} (h:Inv p V nd) (ho:PlOk p) {b:Nat} (hb:b < p.dc) (hd:dig V p.bm b=false) {j:Nat} {y:Nd} {T:Nat->Bool} {k:Nat} (hj:nd j=some (y,T)) (hk:T k=true):frV p V b (ptr V y k)=V (ptr V y k):=by
 have h1:=ho.mapAt hb
 have h2:=ho.tbda
 have h3:=h.rng j y T k hj hk
 exact frV_other (h.free hb hd hj hk) (by omega)
theorem frV_ptr {p:Pl} {V:Nat->Bytes} {nd:NF} (h:Inv p V nd) (ho:PlOk p) {b:Nat} (hb:b < p.dc) (hd:dig V p.bm b=false) {j:Nat} {y:Nd} {T:Nat->Bool} {k:Nat} (hj:nd j=some (y,T)) (hk:T k=true):ptr (frV p V b) y k=ptr V y k :=
 ptrs_congr (h.sok j y T hj) (fun h2=>by have:=frV_held h ho hb hd hj h2;rwa [ptr_200] at this) hk
theorem frV_kp {p:Pl} {V:Nat->Bytes} {nd:NF} (h:Inv p V nd) (ho:PlOk p) {b:Nat} (hb:b < p.dc) (hd:dig V p.bm b=false) (i:Nat):Kp p V (frV p V b) nd i:=by
 have h1:=ho.mapAt hb
 have h2:=ho.tbda
 exact ⟨fun v hv=>frV_other (by omega) (by omega),fun v hv1 hv2=>frV_other (by omega) (by omega),fun j y T k _ hj hk=>frV_held h ho hb hd hj hk⟩
theorem getD_set_same {l:List Nat} {k v:Nat} (h:k < l.length):(l.set k v).getD k 0=v:=by
 rw [List.getD_eq_getElem?_getD,List.getElem?_set_self h];rfl
theorem getD_set_other {l:List Nat} {k j v:Nat} (h:k≠j):(l.set k v).getD j 0=l.getD j 0:=by
 rw [List.getD_eq_getElem?_getD,List.getElem?_set_ne h,List.getD_eq_getElem?_getD]
theorem Fits.set {x:Nd} (h:Fits x) {k v:Nat} (hv:v < 4294967296):Fits ⟨x.kd,x.sz,x.bl.set k v⟩:=by
 refine ⟨by simp [h.bl],fun u hu=>?_⟩
 simp only [Nd.nums,List.mem_cons] at hu
 rcases hu with rfl | rfl | hu
 ·exact h.lt _ (by simp [Nd.nums])
 ·exact h.lt _ (by simp [Nd.nums])
 ·rcases List.mem_or_eq_of_mem_set hu with hu | rfl
  ·exact h.lt _ (by simp [Nd.nums,hu])
  ·exact hv
structure Stp (p:Pl) (V V':Nat->Bytes) (nd:NF) (i:Nat) (x x':Nd) (S S':Nat->Bool):Prop where
 inv:Inv p V' (updF nd i (some (x',S')))
 kp:Kp p V V' nd i
 kd:x'.kd=x.kd
 sz:x'.sz=x.sz
 ptrs:∀ l,S l=true->S' l=true->ptr V' x' l=ptr V x l
 byt:∀ l,l≠200->S l=true->S' l=true->V' (ptr V x l)=V (ptr V x l)
theorem updF_updF (nd:NF) (i:Nat) (y z:Option (Nd×(Nat->Bool))):updF (updF nd i y) i z=updF nd i z:=by
 funext j
 unfold updF
 split<;>rfl
theorem Stp.trans {p:Pl} {V V1 V2:Nat->Bytes} {nd:NF} {i:Nat} {x x1 x2:Nd} {S S1 S2:Nat->Bool} (h0:Inv p V nd) (h:Stp p V V1 nd i x x1 S S1) (h':Stp p V1 V2 (updF nd i (some (x1,S1))) i x1 x2 S1 S2)
  (hS:∀ l,S l=true->S2 l=true->S1 l=true):Stp p V V2 nd i x x2 S S2:=by
 refine ⟨?_,?_,h'.kd.trans h.kd,h'.sz.trans h.sz,fun l h1 h2=>?_,fun l hl h1 h2=>?_⟩
 ·have:=h'.inv
  rwa [updF_updF] at this
 ·exact h.kp.trans h'.kp h0.sok (fun j hj=>updF_other _ _ hj)
 ·rw [h'.ptrs l (hS l h1 h2) h2,h.ptrs l h1 (hS l h1 h2)]
 ·have h3:=h'.byt l hl (hS l h1 h2) h2
  rw [h.ptrs l h1 (hS l h1 h2)] at h3
  rw [h3,h.byt l hl h1 (hS l h1 h2)]
theorem Stp.fb {p:Pl} {V V':Nat->Bytes} {nd:NF} {i:Nat} {x x':Nd} {S S':Nat->Bool} (h:Stp p V V' nd i x x' S S') {q:Nat} (hq:q / 512 < 138) (h1:S (q / 512)=true) (h2:S' (q / 512)=true):fb V' x' q=fb V x q :=
 fb_congr (h.ptrs _ h1 h2) (h.byt _ (by omega) h1 h2)
theorem takeDirect {p:Pl} {V:Nat->Bytes} {nd:NF} (h:Inv p V nd) (ho:PlOk p) {i b k c:Nat} {x:Nd} {S S':Nat->Bool} (hi:nd i=some (x,S)) (hb:b < p.dc) (hd:dig V p.bm b=false)
  (hk:(k < 10/\c=k) ∨ (k=10/\c=200/\∀ l,S l=true->l < 10)) (hS:∀ l,S' l=true ↔ S l=true ∨ l=c) (hSc:S c=false) :
  Stp p V (frV p V b) nd i x ⟨x.kd,x.sz,x.bl.set k (p.da+b)⟩ S S'/\ptr (frV p V b) ⟨x.kd,x.sz,x.bl.set k (p.da+b)⟩ c=p.da+b:=by
 have hfx:=h.fits i x S hi
 have hdat:=ho.dat
 have hn2:=ho.aB.n2
 have hbl:=hfx.bl
 have hp:∀ l,S l=true->ptr (frV p V b) ⟨x.kd,x.sz,x.bl.set k (p.da+b)⟩ l=ptr V x l:=by
  intro l hl
  have h1:=frV_ptr h ho hb hd hi hl
  rw [<- h1]
  have hlc:l≠c:=fun hh=>by rw [hh,hSc] at hl;cases hl
  unfold ptr
  rcases hk with ⟨hk,rfl⟩ | ⟨rfl,rfl,hall⟩
  ·simp only [getD_set_other (show c≠10 by omega),getD_set_other (Ne.symm hlc)]
  ·have:=hall l hl
   simp only [if_neg hlc,if_pos this,getD_set_other (show 10≠l by omega)]
 have hpc:ptr (frV p V b) ⟨x.kd,x.sz,x.bl.set k (p.da+b)⟩ c=p.da+b:=by
  unfold ptr
  rcases hk with ⟨hk,rfl⟩ | ⟨rfl,rfl,hall⟩
  ·rw [if_neg (by omega),if_pos hk]
   exact getD_set_same (by omega)
  ·rw [if_pos rfl]
   exact getD_set_same (by omega)
 refine ⟨⟨?_,frV_kp h ho hb hd i,rfl,rfl,fun l h1 h2=>hp l h1,fun l _ h1 h2=>frV_held h ho hb hd hi h1⟩,hpc⟩
 refine h.add hi hb hd hdat (hfx.set (by omega)) hS (by rcases hk with ⟨hk,rfl⟩ | ⟨_,rfl,_⟩;exact .inl (by omega);exact .inr rfl) (by rcases hk with ⟨hk,rfl⟩ | ⟨_,rfl,_⟩<;>omega) hSc (frV_len h.len b)
  (fun l hl=>frV_dig ho h.len hb hl) (fun l hl=>frV_imap ho hb hl) hp hpc (fun j y T l hji hj hl=>frV_ptr h ho hb hd hj hl)
def inV (p:Pl) (V:Nat->Bytes) (x:Nd) (b k:Nat):Nat->Bytes:=wr (frV p V b) (x.bl.getD 10 0) (put4 (frV p V b (x.bl.getD 10 0)) (4 * (k - 10)) (p.da+b))
theorem takeFar {p:Pl} {V:Nat->Bytes} {nd:NF} (h:Inv p V nd) (ho:PlOk p) {i b k:Nat} {x:Nd} {S S':Nat->Bool} (hi:nd i=some (x,S)) (hb:b < p.dc) (hd:dig V p.bm b=false)
  (hk:10<=k) (hk2:k < 138) (h200:S 200=true) (hS:∀ l,S' l=true ↔ S l=true ∨ l=k) (hSc:S k=false) :
  Stp p V (inV p V x b k) nd i x x S S'/\ptr (inV p V x b k) x k=p.da+b/\inV p V x b k (p.da+b)=zeros:=by
 have hfx:=h.fits i x S hi
 have hdat:=ho.dat
 have hn2:=ho.aB.n2
 have hm:=ho.mapAt hb
 have htd:=ho.tbda
 have hir:=h.rng i x S 200 hi h200
 have hif:=h.free hb hd hi h200
 rw [ptr_200] at hir hif
 have hlen:=frV_len (p:=p) h.len b
 have hoth:∀ v,v≠x.bl.getD 10 0->inV p V x b k v=frV p V b v:=fun v hv=>wr_other _ _ hv
 have hind:inV p V x b k (x.bl.getD 10 0)=put4 (frV p V b (x.bl.getD 10 0)) (4 * (k - 10)) (p.da+b):=wr_same ..
 have hindV:frV p V b (x.bl.getD 10 0)=V (x.bl.getD 10 0):=frV_other hif (by omega)
 have h4:4 * (k - 10)+4<=(frV p V b (x.bl.getD 10 0)).length:=by rw [hlen];omega
 have hpc:ptr (inV p V x b k) x k=p.da+b:=by
  unfold ptr
  rw [if_neg (by omega),if_neg (by omega),hind]
  exact num_put4 h4 (by omega)
 have hp:∀ l,S l=true->ptr (inV p V x b k) x l=ptr V x l:=by
  intro l hl
  have hlk:l≠k:=fun hh=>by rw [hh,hSc] at hl;cases hl
  unfold ptr
  by_cases h1:l=200
  ·rw [if_pos h1,if_pos h1]
  ·rw [if_neg h1,if_neg h1]
   by_cases h2:l < 10
   ·rw [if_pos h2,if_pos h2]
   ·rw [if_neg h2,if_neg h2,hind,num_put4_other h4 (by omega),hindV]
 have hne:∀ j y T l,nd j=some (y,T)->T l=true->(j≠i ∨ l≠200)->ptr V y l≠x.bl.getD 10 0:=fun j y T l hj hl hne he=>by
  have:=h.inj j y T l i x S 200 hj hl hi h200 (by rw [ptr_200];exact he)
  rcases hne with h1 | h1
  ·exact h1 this.1
  ·exact h1 this.2
 have hheld:∀ j y T l,nd j=some (y,T)->T l=true->(j≠i ∨ l≠200)->inV p V x b k (ptr V y l)=V (ptr V y l):=fun j y T l hj hl hh=>by
  rw [hoth _ (hne j y T l hj hl hh)]
  exact frV_held h ho hb hd hj hl
 refine ⟨⟨?_,⟨fun v hv=>?_,fun v h1 h2=>?_,fun j y T l hji hj hl=>hheld j y T l hj hl (.inl hji)⟩,rfl,rfl,fun l h1 _=>hp l h1,fun l h0 h1 h2=>hheld i x S l hi h1 (.inr h0)⟩,hpc,?_⟩
 ·refine h.add hi hb hd hdat hfx hS (.inl hk2) (fun _ _=>h200) hSc (wr_len hlen _ (by rw [put4_length];exact hlen _)) (fun l hl=>?_) (fun l hl=>?_) hp hpc (fun j y T l hji hj hl=>?_)
  ·have:=ho.mapAt hl
   rw [<- frV_dig ho h.len hb hl]
   unfold dig
   rw [hoth _ (by omega)]
  ·have h1:=ho.apart
   have h2:=ho.i2
   have h3:=ho.tbl
   refine Eq.trans ?_ (frV_imap ho hb hl)
   unfold dig
   rw [hoth _ (by omega)]
  ·exact ptrs_congr (h.sok j y T hj) (fun h2=>by have:=hheld j y T 200 hj h2 (.inl hji);rwa [ptr_200] at this) hl
 ·have h3:=ho.tbl
  rw [hoth _ (by omega)]
  exact (frV_kp h ho hb hd i).lo v hv
 ·rw [hoth _ (by omega)]
  exact (frV_kp h ho hb hd i).tab v h1 h2
 ·rw [hoth _ (Ne.symm hif)]
  exact frV_new p V b
theorem inV_dig {p:Pl} {V:Nat->Bytes} {nd:NF} (h:Inv p V nd) (ho:PlOk p) {i b k:Nat} {x:Nd} {S:Nat->Bool} (hi:nd i=some (x,S)) (hb:b < p.dc) (h200:S 200=true) {l:Nat} (hl:l < p.dc):dig (inV p V x b k) p.bm l=if l=b then true else dig V p.bm l:=by
 have hir:=h.rng i x S 200 hi h200
 rw [ptr_200] at hir
 have h1:=ho.mapAt hl
 have h2:=ho.tbda
 rw [<- frV_dig ho h.len hb hl]
 unfold dig inV
 rw [wr_other _ _ (by omega)]
theorem giveStp {p:Pl} {V:Nat->Bytes} {nd:NF} (h:Inv p V nd) (ho:PlOk p) {i b c:Nat} {x x':Nd} {S S':Nat->Bool} (hi:nd i=some (x,S)) (hSc:S c=true) (hb:ptr V x c=p.da+b)
  (hx:x'=x/\10<=c/\c≠200 ∨ c < 10/\x'=⟨x.kd,x.sz,x.bl.set c 0⟩ ∨ c=200/\x'=⟨x.kd,x.sz,x.bl.set 10 0⟩/\∀ l,S l=true->l < 10 ∨ l=200) (hS:∀ l,S' l=true ↔ S l=true/\l≠c) :
  Stp p V (setD V p.bm b false) nd i x x' S S'/\b < p.dc/\dig V p.bm b=true:=by
 have hfx:=h.fits i x S hi
 have hdat:=ho.dat
 have hr:=h.rng i x S c hi hSc
 have hbd:b < p.dc:=by omega
 have hd:dig V p.bm b=true:=(h.map b hbd).2 ⟨i,x,S,c,hi,hSc,hb⟩
 have hm:=ho.mapAt hbd
 have htd:=ho.tbda
 have hV:∀ v,v≠p.bm+b / 4096->setD V p.bm b false v=V v:=fun v hv=>wr_other _ _ hv
 have hheld:∀ j y T l,nd j=some (y,T)->T l=true->setD V p.bm b false (ptr V y l)=V (ptr V y l):=fun j y T l hj hl=>hV _ (by have:=h.rng j y T l hj hl;omega)
 have hptr:∀ j y T l,nd j=some (y,T)->T l=true->ptr (setD V p.bm b false) y l=ptr V y l:=fun j y T l hj hl =>
  ptrs_congr (h.sok j y T hj) (fun h2=>by have:=hheld j y T 200 hj h2;rwa [ptr_200] at this) hl
 have hp:∀ l,S' l=true->ptr (setD V p.bm b false) x' l=ptr V x l:=by
  intro l hl
  have h1:=(hS l).1 hl
  rw [<- hptr i x S l hi h1.1]
  rcases hx with ⟨rfl,_,_⟩ | ⟨h2,rfl⟩ | ⟨rfl,rfl,h3⟩
  ·rfl
  ·unfold ptr
   simp only [getD_set_other (show c≠10 by omega),getD_set_other (Ne.symm h1.2)]
  ·have:l < 10:=by rcases h3 l h1.1 with h4 | h4;exact h4;exact absurd h4 h1.2
   unfold ptr
   simp only [if_neg h1.2,if_pos this,getD_set_other (show 10≠l by omega)]
 refine ⟨⟨?_,⟨fun v hv=>hV _ (by omega),fun v h1 h2=>hV _ (by omega),fun j y T l _ hj hl=>hheld j y T l hj hl⟩,?_,?_,fun l _ h2=>hp l h2,fun l _ h1 _=>hheld i x S l hi h1⟩,hbd,hd⟩
 ·refine h.drop hi hSc hb ?_ hS ?_ (setD_len h.len _ _ _) (fun l hl=>dig_setD h.len _ _ _ _) (fun l hl=>?_) hp (fun j y T l _ hj hl=>hptr j y T l hj hl)
  ·rcases hx with ⟨rfl,_,_⟩ | ⟨h2,rfl⟩ | ⟨rfl,rfl,h3⟩
   ·exact hfx
   ·exact hfx.set (by decide)
   ·exact hfx.set (by decide)
  ·intro h2 l hl h10
   rcases hx with ⟨_,_,h3⟩ | ⟨h3,_⟩ | ⟨_,_,h3⟩
   ·exact absurd h2 h3
   ·omega
   ·rcases h3 l hl with h4 | h4
    ·omega
    ·exact h4
  ·have h1:=ho.apart
   have h2:=ho.i2
   exact dig_setD_other _ _ _ _ _ (by omega)
 ·rcases hx with ⟨rfl,_,_⟩ | ⟨h2,rfl⟩ | ⟨rfl,rfl,h3⟩<;>rfl
 ·rcases hx with ⟨rfl,_,_⟩ | ⟨h2,rfl⟩ | ⟨rfl,rfl,h3⟩<;>rfl
def splice (xs:Bytes) (off:Nat) (ys:Bytes):Bytes:=xs.take off++ys++xs.drop (off+ys.length)
theorem splice_length {xs ys:Bytes} {off:Nat} (h:off+ys.length<=xs.length):(splice xs off ys).length=xs.length:=by
 unfold splice
 simp only [List.length_append,List.length_take,List.length_drop]
 omega
theorem splice_getD {xs ys:Bytes} {off:Nat} (h:off+ys.length<=xs.length) (i:Nat):(splice xs off ys).getD i 0=if off<=i/\i < off+ys.length then ys.getD (i - off) 0 else xs.getD i 0:=by
 unfold splice
 simp only [List.getD_eq_getElem?_getD,List.getElem?_append,List.length_append,List.length_take,List.getElem?_take,List.getElem?_drop]
 have h1:min off xs.length=off:=by omega
 rw [h1]
 by_cases c1:i < off
 ·rw [if_pos (by omega),if_pos c1,if_pos c1,if_neg (by omega)]
 ·by_cases c2:i < off+ys.length
  ·rw [if_pos c2,if_neg c1,if_pos ⟨by omega,c2⟩]
  ·rw [if_neg c2,if_neg (by omega),show off+ys.length+(i - (off+ys.length))=i from by omega]
structure LayR (p:Pl) (V V':Nat->Bytes) (x:Nd) (lo hi:Nat) (bs:Bytes):Prop where
 len:Len5 V'
 oth:∀ b,(∀ k,lo / 512<=k->512 * k < hi->ptr V x k≠b)->V' b=V b
 byt:∀ k,k < 138->∀ j,j < 512->(∀ l,lo / 512<=l->512 * l < hi->ptr V x l=ptr V x k->l=k)->(V' (ptr V x k)).getD j 0=if lo<=512 * k+j/\512 * k+j < hi then bs.getD (512 * k+j - lo) 0 else (V (ptr V x k)).getD j 0
theorem LayR.nil {p:Pl} {V:Nat->Bytes} (h:Len5 V) (x:Nd) (lo:Nat) (bs:Bytes):LayR p V V x lo lo bs :=
 ⟨h,fun _ _=>rfl,fun k hk j hj _=>by rw [if_neg (by omega)]⟩
theorem LayR.step {p:Pl} {V V1:Nat->Bytes} {x:Nd} {lo hi m:Nat} {bs:Bytes} (h:LayR p V V1 x lo hi bs) (hlo:lo<=hi) (hm:0 < m) (hm2:hi % 512+m<=512) (hb:hi - lo+m<=bs.length) (hk:hi / 512 < 138)
  (hinj:∀ k l,lo / 512<=k->512 * k < hi+m->lo / 512<=l->512 * l < hi+m->ptr V x k=ptr V x l->k=l) :
  LayR p V (wr V1 (ptr V x (hi / 512)) (splice (V1 (ptr V x (hi / 512))) (hi % 512) ((bs.drop (hi - lo)).take m))) x lo (hi+m) bs:=by
 have hlen:((bs.drop (hi - lo)).take m).length=m:=by rw [List.length_take,List.length_drop];omega
 have hsp:hi % 512+((bs.drop (hi - lo)).take m).length<=(V1 (ptr V x (hi / 512))).length:=by rw [hlen,h.len];exact hm2
 refine ⟨wr_len h.len _ (by rw [splice_length hsp,h.len]),fun b hbk=>?_,fun k hk' j hj hu=>?_⟩
 ·rw [wr_other _ _ (Ne.symm (hbk (hi / 512) (by omega) (by omega)))]
  exact h.oth b fun k h1 h2=>hbk k h1 (by omega)
 ·have hu':=fun l h1 (h2:512 * l < hi)=>hu l h1 (by omega)
  by_cases he:ptr V x k=ptr V x (hi / 512)
  ·have hke:=hu (hi / 512) (by omega) (by omega) he.symm
   subst hke
   rw [wr_same,splice_getD hsp,hlen]
   have:=h.byt (hi / 512) hk j hj hu'
   by_cases c:hi % 512<=j/\j < hi % 512+m
   ·rw [if_pos c,if_pos ⟨by omega,by omega⟩]
    rw [List.getD_eq_getElem?_getD,List.getElem?_take,if_pos (by omega),List.getElem?_drop,List.getD_eq_getElem?_getD]
    congr 2
    omega
   ·rw [if_neg c,this]
    by_cases c2:lo<=512 * (hi / 512)+j/\512 * (hi / 512)+j < hi
    ·rw [if_pos c2,if_pos ⟨c2.1,by omega⟩]
    ·rw [if_neg c2,if_neg (by omega)]
  ·rw [wr_other _ _ he,h.byt k hk' j hj hu']
   have hkne:k≠hi / 512:=fun hh=>he (by rw [hh])
   by_cases c2:lo<=512 * k+j/\512 * k+j < hi
   ·rw [if_pos c2,if_pos ⟨c2.1,by omega⟩]
   ·rw [if_neg c2,if_neg (by omega)]
theorem LayR.stp {p:Pl} {V V':Nat->Bytes} {nd:NF} {i lo hi:Nat} {x:Nd} {S:Nat->Bool} {bs:Bytes} (h:LayR p V V' x lo hi bs) (hv:Inv p V nd) (ho:PlOk p) (hi':nd i=some (x,S)) (hlo:lo<=hi)
  (hS:∀ k,lo / 512<=k->512 * k < hi->S k=true/\k < 138) :
  Inv p V' nd/\Kp p V V' nd i/\(∀ k,k < p.dc->dig V' p.bm k=dig V p.bm k)/\(∀ k,S k=true->ptr V' x k=ptr V x k) ∧
   ∀ q,q / 512 < 138->S (q / 512)=true->fb V' x q=if lo<=q/\q < hi then bs.getD (q - lo) 0 else fb V x q:=by
 have htd:=ho.tbda
 have hlow:∀ b,b < p.da->V' b=V b:=fun b hb=>h.oth b fun k h1 h2 he=>by
  have:=hv.rng i x S k hi' (hS k h1 h2).1
  omega
 have hheld:∀ j y T l,nd j=some (y,T)->T l=true->(j≠i ∨ l=200)->V' (ptr V y l)=V (ptr V y l):=fun j y T l hj hl hne=>h.oth _ fun k h1 h2 he=>by
  have:=hv.inj i x S k j y T l hi' (hS k h1 h2).1 hj hl he
  rcases hne with hne | hne
  ·exact hne this.1.symm
  ·have:=(hS k h1 h2).2
   omega
 have hptr:∀ j y T l,nd j=some (y,T)->T l=true->ptr V' y l=ptr V y l:=fun j y T l hj hl =>
  ptrs_congr (hv.sok j y T hj) (fun h2=>by have:=hheld j y T 200 hj h2 (.inr rfl);rwa [ptr_200] at this) hl
 have hdig:∀ k,k < p.dc->dig V' p.bm k=dig V p.bm k:=fun k hk=>by
  have:=ho.mapAt hk
  unfold dig
  rw [hlow _ (by omega)]
 refine ⟨?_,⟨fun b hb=>hlow b (by have:=ho.tbl;omega),fun b _ h2=>hlow b h2,fun j y T l hji hj hl=>hheld j y T l hj hl (.inl hji)⟩,hdig,fun k hk=>hptr i x S k hi' hk,fun q hq hSq=>?_⟩
 ·refine hv.same h.len hdig (fun k hk=>?_) fun j=>?_
  ·have h1:=ho.apart
   have h2:=ho.i2
   have h3:=ho.tbl
   unfold dig
   rw [hlow _ (by omega)]
  ·cases hj:nd j with
   | none=>exact .inl ⟨rfl,rfl⟩
   | some y =>
    obtain ⟨y,T⟩:=y
    exact .inr ⟨y,y,T,rfl,rfl,hv.fits _ _ _ hj,fun k hk=>hptr j y T k hj hk⟩
 ·unfold fb
  rw [hptr i x S (q / 512) hi' hSq,h.byt (q / 512) hq (q % 512) (by omega) (fun l h1 h2 he=>(hv.inj i x S l i x S (q / 512) hi' (hS l h1 h2).1 hi' hSq he).2),show 512 * (q / 512)+q % 512=q from by omega]
theorem z51:zeroOf Tryz.prog 51=some (#[.int .i64 0,.int .i64 0]):=by kernel_rfl
theorem agg51:aggOk Tryz.prog 51 2=true:=by kernel_rfl
theorem inStat {s c a:Nat} {p:Pl} {V0 V:Nat->Bytes} {D:List Nat} {op:Bool} {i:Nat} (ho:PlOk p) (hi:i < p.ino) (hd:i=0 ∨ dig V p.im i=true):Spec Tryz.prog 156 #[.pointer (some ⟨s,0,none⟩),nI i] [pt s (stO c a p),pt a (alO c p),TR c p.n V0 V D op] fun F v M=>v=.tuple #[.agg #[nI (ldN p V i).kd,nI (ldN p V i).sz],.int .i64 0]/\M=[pt s (stO c a p),pt a (alO c p),TR c p.n V0 V D op]++F:=by
 refine Spec.intro Tryz.func156 rfl rfl fun B F=>?_
 simp only [Tryz.ntmps156,List.cons_append,List.nil_append,env0,Nat.reduceAdd]
 refine .sr ?_
 refine .alloc z51 fun b4=>?_
 refine .assign (.x (.move (.move ?_)))
 refine .call (hc:=Tryz.call181) (sp:=inLoad (i:=i) (V0:=V0) (V:=V) (D:=D) (op:=op) ho hi hd) (h:=?_)
 rintro _ _ ⟨rfl,rfl⟩
 refine .move ?_
 refine .extract ?_
 refine .extract ?_
 refine .allocL zNd rfl fun b6=>?_
 refine .stLA (xs:=ndL nd0) (us:=ndL (ldN p V i)) ?_ agg228 (ndL_length (ldB_fits _ _).bl) rfl (ndL_single _)
 refine .assign (.x ?_)
 refine .fa ?_ fo228_0
 refine .ldL (xs:=ndL (ldN p V i)) (i:=0) (v:=nI (ldN p V i).kd) ?_ sc3 rfl
 refine .fa ?_ fo228_1
 refine .ldL (xs:=ndL (ldN p V i)) (i:=1) (v:=nI (ldN p V i).sz) ?_ sc3 rfl
 refine .build ?_ (bdStat _ _)
 refine .move ?_
 refine .stV ?_ agg51
 refine .assign (.z ?_)
 refine .ret (?_)
 exact .ret2 (h2:=.tmp (t:=5) rfl) ⟨_,⟨rfl,rfl⟩,Am.auto⟩
theorem inStatNo {s c a:Nat} {p:Pl} {V0 V:Nat->Bytes} {D:List Nat} {op:Bool} {i:Int} (ho:PlOk p) (hno:¬ (0<=i/\i < p.ino/\(i=0 ∨ dig V p.im i.toNat=true))):Spec Tryz.prog 156 #[.pointer (some ⟨s,0,none⟩),.int .i64 i] [pt s (stO c a p),pt a (alO c p),TR c p.n V0 V D op] fun F v M=>v=.tuple #[.agg #[nI 0,nI 0],.int .i64 4]/\M=[pt s (stO c a p),pt a (alO c p),TR c p.n V0 V D op]++F:=by
 refine Spec.intro Tryz.func156 rfl rfl fun B F=>?_
 simp only [Tryz.ntmps156,List.cons_append,List.nil_append,env0,Nat.reduceAdd]
 refine .sr ?_
 refine .alloc z51 fun b4=>?_
 refine .assign (.x (.move (.move ?_)))
 refine .call (hc:=Tryz.call181) (sp:=inLoadNo (i:=i) (V0:=V0) (V:=V) (D:=D) (op:=op) ho hno) (h:=?_)
 rintro _ _ ⟨rfl,rfl⟩
 refine .move ?_
 refine .extract ?_
 refine .extract ?_
 refine .allocL zNd rfl fun b6=>?_
 refine .stLA (xs:=ndL nd0) (us:=ndL nd0) ?_ agg228 (ndL_length rfl) rfl (ndL_single _)
 refine .assign (.x ?_)
 refine .fa ?_ fo228_0
 refine .ldL (xs:=ndL nd0) (i:=0) (v:=nI nd0.kd) ?_ sc3 rfl
 refine .fa ?_ fo228_1
 refine .ldL (xs:=ndL nd0) (i:=1) (v:=nI nd0.sz) ?_ sc3 rfl
 refine .build ?_ (bdStat _ _)
 refine .move ?_
 refine .stV ?_ agg51
 refine .assign (.z ?_)
 refine .ret (?_)
 exact .ret2 (h2:=.tmp (t:=5) rfl) ⟨_,⟨rfl,rfl⟩,Am.auto⟩
theorem inFormat {s c a:Nat} {p:Pl} {V0 V:Nat->Bytes} {D:List Nat} (ho:PlOk p) (hroom:Room D):Spec Tryz.prog 138 #[.pointer (some ⟨s,0,none⟩)] [pt s (stO c a p),TR c p.n V0 V D true] fun F v M=>v=okV/\M=[pt s (stO c a p),TR c p.n V0 (svV p V 0 ⟨2,0,List.replicate 11 0⟩) (insD D (p.tb+0 / 8)) true]++F:=by
 refine Spec.intro Tryz.func138 rfl rfl fun B F=>?_
 simp only [Tryz.ntmps138,List.cons_append,List.nil_append,env0,Nat.reduceAdd]
 refine .sr (.assign (.z (.seq (.sr (.move ?_)))))
 refine .call (hc:=Tryz.call210) (sp:=inReady (n:=p.n) (V0:=V0) (V:=V) (D:=D) (op:=true)) (h:=?_)
 rintro _ _ ⟨rfl,rfl⟩
 simp only [List.cons_append,List.nil_append]
 refine .not ?_
 refine .z ?_
 refine .condF rfl rfl ?_
 refine .skip (.next (.sr (.move ?_)))
 refine .build ?_ (bdNdK 2)
 refine .call (hc:=Tryz.call149) (sp:=inSave (i:=0) (x:=⟨2,0,List.replicate 11 0⟩) (V0:=V0) (V:=V) (D:=D) ho ho.i1 ⟨rfl,by decide⟩ hroom) (h:=?_)
 rintro _ _ ⟨rfl,rfl⟩
 refine .assign (.z ?_)
 refine .ret (?_)
 exact .ret1 (h1:=.tmp (t:=2) rfl) ⟨_,⟨rfl,rfl⟩,Am.auto⟩
theorem kFits {k:Nat} (h:k < 4294967296):Fits ⟨k,0,List.replicate 11 0⟩:=⟨rfl,fun v hv=>by
 simp only [Nd.nums,List.mem_cons,List.mem_replicate] at hv
 rcases hv with rfl | rfl | ⟨_,rfl⟩
 ·exact h
 ·decide
 ·decide⟩
def mkD (p:Pl) (D:List Nat) (i:Nat):List Nat:=insD (insD D (p.im+i / 4096)) (p.tb+i / 8)
theorem PlOk.lo {p:Pl} (h:PlOk p):245<=p.im/\p.im < p.bm/\p.bm < p.tb/\p.tb < p.da/\p.da < p.n/\p.n<=65536:=by
 have h1:=h.aI.lo;have h2:=h.apart;have h3:=h.tbl;have h4:=h.d1;have h5:=h.tbda;have h6:=h.dat;have h7:=h.aI.n2
 omega
theorem mkD_ok {p:Pl} {D:List Nat} (ho:PlOk p) (hd:Dk p D) {i:Nat} (hi:i < p.ino):Dk p (mkD p D i)/\wt p (mkD p D i)<=wt p D+1:=by
 have h1:=ho.lo;have h2:=ho.i2;have h3:=ho.tab
 have e1:=wt_ins p D (p.im+i / 4096)
 have e2:=wt_ins p (insD D (p.im+i / 4096)) (p.tb+i / 8)
 have e3:=e1.2.1 (by omega)
 exact ⟨(hd.ins (by omega) (by omega)).ins (by omega) (by omega),by unfold mkD;omega⟩
theorem inMake {s c a:Nat} {p:Pl} {V0 V:Nat->Bytes} {D:List Nat} {k:Nat} (ho:PlOk p) (hk:k=1 ∨ k=2) (hdk:Dk p D) (hrm:Rm p D 1):Spec Tryz.prog 145 #[.pointer (some ⟨s,0,none⟩),nI k] [pt s (stO c a p),pt a (alO c p),TR c p.n V0 V D true] fun F v M =>
  (∃ i,i < p.ino/\dig V p.im i=false/\(∀ j < i,dig V p.im j=true)/\v=.tuple #[nI i,.int .i64 0]/\M=[pt s (stO c a p),pt a (alO c p),TR c p.n V0 (svV p (setD V p.im i true) i ⟨k,0,List.replicate 11 0⟩) (mkD p D i) true]++F) ∨
  ((∀ j < p.ino,dig V p.im j=true)/\v=.tuple #[nI 0,.int .i64 3]/\M=[pt s (stO c a p),pt a (alO c p),TR c p.n V0 V D true]++F):=by
 refine Spec.intro Tryz.func145 rfl rfl fun B F=>?_
 simp only [Tryz.ntmps145,List.cons_append,List.nil_append,env0,Nat.reduceAdd]
 have hlo:=ho.lo
 have hi2:=ho.i2
 rcases hk with rfl | rfl
 ·refine .sr (.assign (.assign (.z (.seq (.block (.sr (.move ?_)))))))
  refine .call (hc:=Tryz.call210) (sp:=inReady (n:=p.n) (V0:=V0) (V:=V) (D:=D) (op:=true)) (h:=?_)
  rintro _ _ ⟨rfl,rfl⟩
  simp only [List.cons_append,List.nil_append]
  refine .not ?_
  refine .assign (.z ?_)
  refine .condF rfl rfl ?_
  refine .sr (.move ?_)
  refine .nei ?_
  refine .move ?_
  refine .gF ?_
  refine .gF ?_
  refine .pickF ?_
  refine .assign (.z ?_)
  refine .condF rfl rfl ?_
  refine .skip (.blockNormal (.next (.sr (.move ?_))))
  refine .nilCheck ?_
  refine .fa ?_ fo266_1
  refine .ld ?_ sc125
  refine .call (hc:=Tryz.call226) (sp:=alTakeInode (p:=p) (V0:=V0) (V:=V) (D:=D) ho (hdk.room (c:=0) hrm)) (h:=?_)
  rintro _ _ (⟨j,hj,hj0,hjb,rfl,rfl⟩ | ⟨hall,rfl,rfl⟩)<;>simp only [List.cons_append,List.nil_append]
  ·refine .move ?_
   refine .extract ?_
   refine .extract ?_
   refine .assign (.assign (.z (.seq (.sr (.move ?_)))))
   refine .nei ?_
   refine .z ?_
   refine .condF rfl rfl ?_
   refine .skip (.next (.seq (.sr (.move (.move (.move ?_))))))
   refine .build ?_ (bdNdK 1)
   refine .call (hc:=Tryz.call149) (sp:=inSave (i:=j) (x:=⟨1,0,List.replicate 11 0⟩) (V0:=V0) (V:=setD V p.im j true) (D:=insD D (p.im+j / 4096)) ho hj (kFits (by decide)) ((hdk.ins (by omega) (by omega)).room (c:=0) (hrm.mono (by have:=(wt_ins p D (p.im+j / 4096)).2.1 (by omega);omega)))) (h:=?_)
   rintro _ _ ⟨rfl,rfl⟩
   simp only [List.cons_append,List.nil_append]
   refine .assign (.x (.move ?_))
   refine .nei ?_
   refine .z ?_
   refine .condF rfl rfl ?_
   refine .skip (.next (.sr (.move (.assign (.assign (.z ?_))))))
   refine .ret (?_)
   exact .ret2 (h1:=.tmp (t:=4) rfl) (h2:=.tmp (t:=5) rfl) ⟨_,.inl ⟨j,hj,hj0,hjb,rfl,rfl⟩,Am.auto⟩
  ·refine .move ?_
   refine .extract ?_
   refine .extract ?_
   refine .assign (.assign (.z (.seq (.sr (.move ?_)))))
   refine .nei ?_
   refine .z ?_
   refine .condT rfl rfl ?_
   refine .sr (.move (.assign (.assign (.z ?_))))
   refine .ret (.thenRet (?_))
   exact .ret2 (h1:=.tmp (t:=4) rfl) (h2:=.tmp (t:=5) rfl) ⟨_,.inr ⟨hall,rfl,rfl⟩,Am.auto⟩
 ·refine .sr (.assign (.assign (.z (.seq (.block (.sr (.move ?_)))))))
  refine .call (hc:=Tryz.call210) (sp:=inReady (n:=p.n) (V0:=V0) (V:=V) (D:=D) (op:=true)) (h:=?_)
  rintro _ _ ⟨rfl,rfl⟩
  simp only [List.cons_append,List.nil_append]
  refine .not ?_
  refine .assign (.z ?_)
  refine .condF rfl rfl ?_
  refine .sr (.move ?_)
  refine .nei ?_
  refine .move ?_
  refine .gT ?_
  refine .move ?_
  refine .gT ?_
  refine .nei ?_
  refine .pickT ?_
  refine .assign (.z ?_)
  refine .condF rfl rfl ?_
  refine .skip (.blockNormal (.next (.sr (.move ?_))))
  refine .nilCheck ?_
  refine .fa ?_ fo266_1
  refine .ld ?_ sc125
  refine .call (hc:=Tryz.call226) (sp:=alTakeInode (p:=p) (V0:=V0) (V:=V) (D:=D) ho (hdk.room (c:=0) hrm)) (h:=?_)
  rintro _ _ (⟨j,hj,hj0,hjb,rfl,rfl⟩ | ⟨hall,rfl,rfl⟩)<;>simp only [List.cons_append,List.nil_append]
  ·refine .move ?_
   refine .extract ?_
   refine .extract ?_
   refine .assign (.assign (.z (.seq (.sr (.move ?_)))))
   refine .nei ?_
   refine .z ?_
   refine .condF rfl rfl ?_
   refine .skip (.next (.seq (.sr (.move (.move (.move ?_))))))
   refine .build ?_ (bdNdK 2)
   refine .call (hc:=Tryz.call149) (sp:=inSave (i:=j) (x:=⟨2,0,List.replicate 11 0⟩) (V0:=V0) (V:=setD V p.im j true) (D:=insD D (p.im+j / 4096)) ho hj (kFits (by decide)) ((hdk.ins (by omega) (by omega)).room (c:=0) (hrm.mono (by have:=(wt_ins p D (p.im+j / 4096)).2.1 (by omega);omega)))) (h:=?_)
   rintro _ _ ⟨rfl,rfl⟩
   simp only [List.cons_append,List.nil_append]
   refine .assign (.x (.move ?_))
   refine .nei ?_
   refine .z ?_
   refine .condF rfl rfl ?_
   refine .skip (.next (.sr (.move (.assign (.assign (.z ?_))))))
   refine .ret (?_)
   exact .ret2 (h1:=.tmp (t:=4) rfl) (h2:=.tmp (t:=5) rfl) ⟨_,.inl ⟨j,hj,hj0,hjb,rfl,rfl⟩,Am.auto⟩
  ·refine .move ?_
   refine .extract ?_
   refine .extract ?_
   refine .assign (.assign (.z (.seq (.sr (.move ?_)))))
   refine .nei ?_
   refine .z ?_
   refine .condT rfl rfl ?_
   refine .sr (.move (.assign (.assign (.z ?_))))
   refine .ret (.thenRet (?_))
   exact .ret2 (h1:=.tmp (t:=4) rfl) (h2:=.tmp (t:=5) rfl) ⟨_,.inr ⟨hall,rfl,rfl⟩,Am.auto⟩
theorem inBlock {s c a:Nat} {p:Pl} {V0 V:Nat->Bytes} {D:List Nat} {op:Bool} {x:Nd} {k:Nat} (hbl:x.bl.length=11) (hk:k < 138) (hV:10<=k->245<=x.bl.getD 10 0/\x.bl.getD 10 0 < p.n):Spec Tryz.prog 182 #[.pointer (some ⟨s,0,none⟩),ndV x,nI k] [pt s (stO c a p),TR c p.n V0 V D op] fun F v M=>v=.tuple #[nI (ptr V x k),.int .i64 0]/\M=[pt s (stO c a p),TR c p.n V0 V D op]++F:=by
 refine Spec.intro Tryz.func182 rfl rfl fun B F=>?_
 simp only [Tryz.ntmps182,List.cons_append,List.nil_append,env0,Nat.reduceAdd]
 by_cases h10:k < 10
 ·refine .sr ?_
  refine .boxL (us:=ndL x) fun b4=>?_
  refine .assign (.assign (.z (.seq (.sr (.move ?_)))))
  refine .lss ?_
  refine .z ?_
  refine .condT rfl (congrArg Value.bool (by first|simp;done|simp;omega|omega)) ?_
  refine .sr (.move ?_)
  refine .fa ?_ fo228_2
  refine .idxA ?_ ar226
  refine .ldL (xs:=ndL x) (i:=0+2+((k:Nat):Int).toNat * 1) (v:=nI (x.bl.getD k 0)) ?_ sc3 (by rw [show 0+2+((k:Nat):Int).toNat * 1=2+k from by omega];exact ndL_bl (by omega))
  refine .assign (.assign (.z ?_))
  refine .ret (.thenRet (?_))
  exact .ret2 (h1:=.tmp (t:=6) rfl) (h2:=.tmp (t:=7) rfl) ⟨_,⟨by unfold ptr;rw [if_neg (by omega),if_pos h10],rfl⟩,Am.auto⟩
 ·obtain ⟨hV1,hV2⟩:=hV (by omega)
  refine .sr ?_
  refine .boxL (us:=ndL x) fun b4=>?_
  refine .assign (.assign (.z (.seq (.sr (.move ?_)))))
  refine .lss ?_
  refine .z ?_
  refine .condF rfl (congrArg Value.bool (by first|simp;done|simp;omega|omega)) ?_
  refine .skip (.next (.seq ?_))
  refine .dr ([pt s (stO c a p),row b4 228 (ndL x)]) [] 13 mixed .autoJ ?_
  refine .tk 0 rfl .move ?_
  refine .tk 1 rfl .nilCheck ?_
  refine .tk 2 rfl (.fa fo266_0) ?_
  refine .tk 3 rfl (.ld sc124) ?_
  refine .tk 4 rfl (.fa fo228_2) ?_
  refine .tk 5 rfl (.idxA ar226) ?_
  refine .tk 6 rfl (Qt.ldL (xs:=ndL x) (i:=12) (v:=nI (x.bl.getD 10 0)) sc3 (ndL_bl (k:=10) (by omega))) ?_
  refine .on 7 rfl fun hnp=>?_
  refine .call (hc:=Tryz.call183) (sp:=tRead (n:=p.n) (V0:=V0) (V:=V) (D:=D) (op:=op) (k:=x.bl.getD 10 0) hV1 hV2) (h:=?_)
  rintro _ _ ⟨gb,q,el,rfl,⟨hq1,hq2,hl5⟩,rfl⟩
  refine .nil (.wa hnp ?_)
  refine .tk 8 rfl .move ?_
  refine .tk 9 rfl .extract ?_
  refine .tk 10 rfl .extract ?_
  refine .tk 11 rfl .assign ?_
  refine .tk 12 rfl .assign ?_
  refine .fin ?_
  refine .next (.sr (.move (.move ?_)))
  refine .sub ?_
  refine .mul ?_
  refine .cast (d:=30) (u:=nI (4 * (k - 10))) rfl (congrArg (Value.int .i64) (by omega)) ?_
  refine .call (hc:=Tryz.call252) (sp:=inGet (q:=4 * (k - 10)) Reads.buf hl5 (by decide) (by omega)) (h:=?_)
  rintro _ _ ⟨rfl,rfl⟩
  refine .move (.assign (.assign (.z ?_)))
  refine .ret (?_)
  exact .ret2 (h1:=.tmp (t:=6) rfl) (h2:=.tmp (t:=7) rfl) ⟨_,⟨by unfold ptr;rw [if_neg (by omega),if_neg h10];rfl,rfl⟩,Am.auto⟩
def frD (p:Pl) (D:List Nat) (b:Nat):List Nat:=insD (insD D (p.bm+b / 4096)) (p.da+b)
theorem frD_ok {p:Pl} {D:List Nat} (ho:PlOk p) (hd:Dk p D) {b:Nat} (hb:b < p.dc):Dk p (frD p D b)/\wt p (frD p D b)<=wt p D+1/\(∀ z∈D,z∈frD p D b)/\p.da+b∈frD p D b:=by
 have h1:=ho.lo;have h2:=ho.mapAt hb;have h3:=ho.dat
 have e1:=(wt_ins p D (p.bm+b / 4096)).2.1 h2
 have e2:=wt_ins p (insD D (p.bm+b / 4096)) (p.da+b)
 refine ⟨(hd.ins (by omega) (by omega)).ins (by omega) (by omega),by unfold frD;omega,fun z hz=>?_,?_⟩
 ·exact mem_insD.2 (.inl (mem_insD.2 (.inl hz)))
 ·exact mem_insD.2 (.inr rfl)
theorem inFresh {s c a:Nat} {p:Pl} {V0 V:Nat->Bytes} {D:List Nat} (ho:PlOk p) (hdk:Dk p D) (hrm:Rm p D 1) (hfree:cnt V p.bm p.dc < p.dc):Spec Tryz.prog 273 #[.pointer (some ⟨s,0,none⟩)] [pt s (stO c a p),pt a (alO c p),TR c p.n V0 V D true] fun F v M =>
  ∃ b,b < p.dc/\dig V p.bm b=false/\v=.tuple #[nI (p.da+b),.int .i64 0]/\M=[pt s (stO c a p),pt a (alO c p),TR c p.n V0 (frV p V b) (frD p D b) true]++F:=by
 refine Spec.intro Tryz.func273 rfl rfl fun B F=>?_
 simp only [Tryz.ntmps273,List.cons_append,List.nil_append,env0,Nat.reduceAdd]
 have hlo:=ho.lo
 have hdat:=ho.dat
 refine .sr (.assign (.assign (.x (.move ?_))))
 refine .nilCheck ?_
 refine .fa ?_ fo266_1
 refine .ld ?_ sc125
 refine .call (hc:=Tryz.call303) (sp:=alTakeBlock (p:=p) (V0:=V0) (V:=V) (D:=D) ho (hdk.room (c:=0) hrm)) (h:=?_)
 rintro _ _ (⟨k,hk,hk0,hkb,rfl,rfl⟩ | ⟨hall,rfl,rfl⟩)<;>simp only [List.cons_append,List.nil_append]
 ·refine .move ?_
  refine .extract ?_
  refine .extract ?_
  refine .assign (.assign (.z (.seq (.sr (.move ?_)))))
  refine .nei ?_
  refine .z ?_
  refine .condF rfl rfl ?_
  refine .skip (.next (.seq ?_))
  have hmp:=ho.mapAt hk
  have hroom2:(insD D (p.bm+k / 4096)).length < 60:=(hdk.ins (by omega) (by omega)).room (c:=0) (hrm.mono (by have:=(wt_ins p D (p.bm+k / 4096)).2.1 (by omega);omega))
  refine .dr ([pt s (stO c a p)]) [] 10 mixed .autoJ ?_
  refine .tk 0 rfl .move ?_
  refine .tk 1 rfl .move ?_
  refine .tk 2 rfl .nilCheck ?_
  refine .tk 3 rfl (.fa fo266_0) ?_
  refine .tk 4 rfl (.ld sc124) ?_
  refine .tk 5 rfl .move ?_
  refine .on 6 rfl fun hnp=>?_
  refine .mkSN 512 z5 so33 (by decide) (by decide) fun b23=>?_
  refine .to (A:=buf b23 5 512 (List.replicate 512 (.int .u8 0))) (A':=buf b23 5 512 (bvs zeros)) (fun h hh=>by rw [zeros,bvs_replicate];exact hh) ?_
  refine .nil (.wa hnp ?_)
  refine .on 7 rfl fun hnp=>?_
  refine .call (hc:=Tryz.call135) (sp:=tWrite (n:=p.n) (V0:=V0) (V:=setD V p.bm k true) (D:=insD D (p.bm+k / 4096)) (k:=p.da+k) (by omega) (by omega) Reads.buf zeros_length rfl (.inr hroom2)) (h:=?_)
  rintro _ _ ⟨rfl,rfl⟩
  refine .nil (.wa hnp ?_)
  refine .tk 8 rfl .assign ?_
  refine .tk 9 rfl .assign ?_
  refine .fin ?_
  refine .next ?_
  refine .ret (?_)
  exact .ret2 (h1:=.tmp (t:=2) rfl) (h2:=.tmp (t:=3) rfl) ⟨_,⟨k,hk,hk0,rfl,rfl⟩,Am.auto⟩
 ·exact absurd hfree (by rw [cnt_full hall];omega)
structure TakeP (p:Pl) (V V':Nat->Bytes) (nd:NF) (i:Nat) (x x':Nd) (D D':List Nat) (k:Nat):Prop where
 stp:Stp p V V' nd i x x' (stdS k) (stdS (k+1))
 cn:cnt V' p.bm p.dc=cnt V p.bm p.dc+(if k=10 then 2 else 1)
 new:∀ j,j < 512->fb V' x' (512 * k+j)=0
 dk:Dk p D'
 wt:wt p D'+(if 10 < k/\x.bl.getD 10 0∈D then 1 else 0)<=wt p D+(if k=10 then 2 else 1)+(if 10 < k then 1 else 0)
 ind:10<=k->x'.bl.getD 10 0∈D'
theorem fb_new {V:Nat->Bytes} {x:Nd} {k v:Nat} (h:ptr V x k=v) (hv:V v=zeros) {j:Nat} (hj:j < 512):fb V x (512 * k+j)=0:=by
 unfold fb
 rw [show (512 * k+j) / 512=k from by omega,h,hv]
 exact zeros_getD _
theorem takeA {p:Pl} {V:Nat->Bytes} {D:List Nat} {nd:NF} (h:Inv p V nd) (ho:PlOk p) (hdk:Dk p D) {i b k:Nat} {x:Nd} (hi:nd i=some (x,stdS k)) (hk:k < 10) (hb:b < p.dc) (hd:dig V p.bm b=false) :
  TakeP p V (frV p V b) nd i x ⟨x.kd,x.sz,x.bl.set k (p.da+b)⟩ D (frD p D b) k:=by
 obtain ⟨h1,h2⟩:=takeDirect (S':=stdS (k+1)) h ho hi hb hd (.inl ⟨hk,rfl⟩) (fun l=>by simp only [stdS_iff];omega) (by unfold stdS;simp;omega)
 have h3:=frD_ok ho hdk hb
 refine ⟨h1,?_,fun j hj=>fb_new h2 (frV_new p V b) hj,h3.1,?_,fun hh=>by omega⟩
 ·rw [if_neg (by omega)]
  exact cnt_true hb hd fun l hl=>frV_dig ho h.len hb hl
 ·rw [if_neg (by omega),if_neg (by omega),if_neg (by omega)]
  omega
theorem inD_ok {p:Pl} {D:List Nat} (hd:Dk p D) {v:Nat} (h1:245<=v) (h2:v < p.n):Dk p (insD D v)/\wt p (insD D v)<=wt p D+1/\(v∈D->wt p (insD D v)=wt p D)/\v∈insD D v:=by
 have:=wt_ins p D v
 exact ⟨hd.ins h1 h2,this.1,this.2.2,mem_insD.2 (.inr rfl)⟩
theorem takeFa {p:Pl} {V:Nat->Bytes} {D:List Nat} {nd:NF} (h:Inv p V nd) (ho:PlOk p) (hdk:Dk p D) {i b k:Nat} {x:Nd} (hi:nd i=some (x,stdS k)) (hk:10 < k) (hk2:k < 138) (hb:b < p.dc) (hd:dig V p.bm b=false) :
  TakeP p V (inV p V x b k) nd i x x D (insD (frD p D b) (x.bl.getD 10 0)) k:=by
 have h200:stdS k 200=true:=stdS_iff.2 (.inr ⟨rfl,hk⟩)
 obtain ⟨h1,h2,h3⟩:=takeFar (S':=stdS (k+1)) h ho hi hb hd (by omega) hk2 h200 (fun l=>by simp only [stdS_iff];omega) (by unfold stdS;simp;omega)
 have hlo:=ho.lo
 have hr:=h.rng i x _ 200 hi h200
 rw [ptr_200] at hr
 have h4:=frD_ok ho hdk hb
 have h5:=inD_ok h4.1 (v:=x.bl.getD 10 0) (by omega) hr.2
 refine ⟨h1,?_,fun j hj=>fb_new h2 h3 hj,h5.1,?_,fun _=>h5.2.2.2⟩
 ·rw [if_neg (by omega)]
  exact cnt_true hb hd fun l hl=>inV_dig h ho hi hb h200 hl
 ·rw [if_neg (show ¬ k=10 by omega),if_pos hk]
  split
  ·rename_i hc
   have:=h5.2.2.1 (h4.2.2.1 _ hc.2)
   omega
  ·omega
def sInd (k:Nat):Nat->Bool:=fun l=>decide (l < k) || decide (l=200)
theorem takeB {p:Pl} {V:Nat->Bytes} {D:List Nat} {nd:NF} (h:Inv p V nd) (ho:PlOk p) (hdk:Dk p D) {i b1 b2:Nat} {x x1:Nd} (hi:nd i=some (x,stdS 10)) (hx1:x1=⟨x.kd,x.sz,x.bl.set 10 (p.da+b1)⟩) (hb:b1 < p.dc) (hd:dig V p.bm b1=false)
  (hb2:b2 < p.dc) (hd2:dig (frV p V b1) p.bm b2=false) :
  TakeP p V (inV p (frV p V b1) x1 b2 10) nd i x x1 D (insD (frD p (frD p D b1) b2) (x1.bl.getD 10 0)) 10:=by
 subst hx1
 have hfx:=h.fits i x _ hi
 have hd10:(x.bl.set 10 (p.da+b1)).getD 10 0=p.da+b1:=getD_set_same (by rw [hfx.bl];decide)
 obtain ⟨s1,s2⟩:=takeDirect (S':=sInd 10) (c:=200) (k:=10) h ho hi hb hd (.inr ⟨rfl,rfl,fun l hl=>by have:=stdS_iff.1 hl;omega⟩) (fun l=>by simp only [stdS_iff,sInd,Bool.or_eq_true,decide_eq_true_eq];omega) (by unfold stdS;simp)
 have hi1:updF nd i (some (⟨x.kd,x.sz,x.bl.set 10 (p.da+b1)⟩,sInd 10)) i=some (⟨x.kd,x.sz,x.bl.set 10 (p.da+b1)⟩,sInd 10):=updF_same ..
 have h200:sInd 10 200=true:=by unfold sInd;simp
 obtain ⟨t1,t2,t3⟩:=takeFar (S':=stdS 11) (k:=10) s1.inv ho hi1 hb2 hd2 (by omega) (by omega) h200 (fun l=>by simp only [stdS_iff,sInd,Bool.or_eq_true,decide_eq_true_eq];omega) (by unfold sInd;simp)
 have h4:=frD_ok ho hdk hb
 have h5:=frD_ok ho h4.1 hb2
 have hlo:=ho.lo
 have hdat:=ho.dat
 have h6:=inD_ok h5.1 (v:=p.da+b1) (by omega) (by omega)
 refine ⟨Stp.trans h s1 t1 (fun l h1 _=>by have:=stdS_iff.1 h1;unfold sInd;simp;omega),?_,fun j hj=>fb_new t2 t3 hj,?_,?_,fun _=>?_⟩
 ·rw [if_pos rfl]
  have e1:cnt (frV p V b1) p.bm p.dc=cnt V p.bm p.dc+1:=cnt_true hb hd fun l hl=>frV_dig ho h.len hb hl
  have e2:cnt (inV p (frV p V b1) ⟨x.kd,x.sz,x.bl.set 10 (p.da+b1)⟩ b2 10) p.bm p.dc=cnt (frV p V b1) p.bm p.dc+1:=cnt_true hb2 hd2 fun l hl=>inV_dig s1.inv ho hi1 hb2 h200 hl
  omega
 ·show Dk p (insD (frD p (frD p D b1) b2) ((x.bl.set 10 (p.da+b1)).getD 10 0))
  rw [hd10];exact h6.1
 ·show Go.Proofs.YtdmjkjeoamiedaaGreatDoor.wt p (insD (frD p (frD p D b1) b2) ((x.bl.set 10 (p.da+b1)).getD 10 0))+_<=_
  rw [hd10,if_neg (by omega),if_pos rfl,if_neg (by omega),h6.2.2.1 (h5.2.2.1 _ h4.2.2.2)]
  omega
 ·show (x.bl.set 10 (p.da+b1)).getD 10 0∈insD (frD p (frD p D b1) b2) ((x.bl.set 10 (p.da+b1)).getD 10 0)
  rw [hd10];exact h6.2.2.2
theorem frV_cnt {p:Pl} {V:Nat->Bytes} (ho:PlOk p) (h5:Len5 V) {b:Nat} (hb:b < p.dc) (hd:dig V p.bm b=false):cnt (frV p V b) p.bm p.dc=cnt V p.bm p.dc+1:=cnt_true hb hd fun l hl=>frV_dig ho h5 hb hl
theorem inTake {s c a:Nat} {p:Pl} {V0 V:Nat->Bytes} {D:List Nat} {nd:NF} {i b k:Nat} {x:Nd} (h:Inv p V nd) (ho:PlOk p) (hi:nd i=some (x,stdS k)) (hk:k < 138) (hdk:Dk p D) (hrm:Rm p D 3) (hfree:cnt V p.bm p.dc+(if k=10 then 2 else 1)<=p.dc) :
  Spec Tryz.prog 229 #[.pointer (some ⟨s,0,none⟩),.pointer (some ⟨b,0,none⟩),nI k] [pt s (stO c a p),pt a (alO c p),TR c p.n V0 V D true,row b 228 (ndL x)] fun F v M=>∃ x' V' D',TakeP p V V' nd i x x' D D' k/\v=okV/\M=[pt s (stO c a p),pt a (alO c p),TR c p.n V0 V' D' true,row b 228 (ndL x')]++F:=by
 refine Spec.intro Tryz.func229 rfl rfl fun B F=>?_
 simp only [Tryz.ntmps229,List.cons_append,List.nil_append,env0,Nat.reduceAdd]
 have hlo:=ho.lo
 have hdat:=ho.dat
 have hfx:=h.fits i x _ hi
 have hbl:=hfx.bl
 rcases (show k < 10 ∨ k=10 ∨ 10 < k from by omega) with hc | hc | hc
 ·rw [if_neg (by omega)] at hfree
  refine .sr (.assign (.z (.seq (.sr (.move ?_)))))
  refine .eqi ?_
  refine .z ?_
  refine .condF rfl (congrArg Value.bool (by first|simp;done|simp;omega|omega)) ?_
  refine .skip (.next (.sr (.move ?_)))
  refine .call (hc:=Tryz.call273) (sp:=inFresh (V0:=V0) (V:=V) (D:=D) ho hdk (hrm.mono (by omega)) (by omega)) (h:=?_)
  rintro _ _ ⟨q,hq,hqd,rfl,rfl⟩
  simp only [List.cons_append,List.nil_append]
  refine .move ?_
  refine .extract ?_
  refine .extract ?_
  refine .assign (.assign (.z (.seq (.sr (.move ?_)))))
  refine .nei ?_
  refine .z ?_
  refine .condF rfl rfl ?_
  refine .skip (.next (.seq (.sr (.move ?_))))
  refine .lss ?_
  refine .z ?_
  refine .condT rfl (congrArg Value.bool (by first|simp;done|simp;omega|omega)) ?_
  refine .sr (.move (.move (.move ?_)))
  refine .nilCheck ?_
  refine .fa ?_ fo228_2
  refine .idxA ?_ ar226
  refine .stL (xs:=ndL x) (i:=0+2+((k:Nat):Int).toNat * 1) ?_ sc3 (by rw [ndL_length hbl];omega)
  refine .to (A:=row b 228 ((ndL x).set (0+2+((k:Nat):Int).toNat * 1) (nI (p.da+q)))) (A':=row b 228 (ndL ⟨x.kd,x.sz,x.bl.set k (p.da+q)⟩)) (fun h hh=>by rw [show 0+2+((k:Nat):Int).toNat * 1=2+k from by omega,ndL_set] at hh;exact hh) ?_
  refine .x (.assign (.z ?_))
  refine .ret (.thenRet (?_))
  exact .ret1 (h1:=.tmp (t:=6) rfl) ⟨_,⟨_,_,_,takeA h ho hdk hi hc hq hqd,rfl,rfl⟩,Am.auto⟩
 ·subst hc
  rw [if_pos rfl] at hfree
  refine .sr (.assign (.z (.seq (.sr (.move ?_)))))
  refine .eqi ?_
  refine .z ?_
  refine .condT rfl (congrArg Value.bool (by first|simp;done|simp;omega|omega)) ?_
  refine .sr (.move ?_)
  refine .call (hc:=Tryz.call273) (sp:=inFresh (V0:=V0) (V:=V) (D:=D) ho hdk (hrm.mono (by omega)) (by omega)) (h:=?_)
  rintro _ _ ⟨q,hq,hqd,rfl,rfl⟩
  simp only [List.cons_append,List.nil_append]
  refine .move ?_
  refine .extract ?_
  refine .extract ?_
  refine .assign (.assign (.z (.seq (.sr (.move ?_)))))
  refine .nei ?_
  refine .z ?_
  refine .condF rfl rfl ?_
  refine .skip (.next (.region (.move (.move ?_))))
  refine .nilCheck ?_
  refine .fa ?_ fo228_2
  refine .idxA ?_ ar226
  refine .stL (xs:=ndL x) (i:=12) ?_ sc3 (by rw [ndL_length hbl];omega)
  refine .to (A:=row b 228 ((ndL x).set 12 (nI (p.da+q)))) (A':=row b 228 (ndL ⟨x.kd,x.sz,x.bl.set 10 (p.da+q)⟩)) (fun h hh=>by rw [show 12=2+10 from rfl,ndL_set] at hh;exact hh) ?_
  refine .x (.move ?_)
  have hD1:=frD_ok ho hdk hq
  have hcn:=frV_cnt ho h.len hq hqd
  refine .call (hc:=Tryz.call273) (sp:=inFresh (V0:=V0) (V:=frV p V q) (D:=frD p D q) ho hD1.1 (hrm.mono (by omega)) (by omega)) (h:=?_)
  rintro _ _ ⟨r,hr,hrd,rfl,rfl⟩
  simp only [List.cons_append,List.nil_append]
  refine .move ?_
  refine .extract ?_
  refine .extract ?_
  refine .assign (.assign (.z (.seq (.sr (.move ?_)))))
  refine .nei ?_
  refine .z ?_
  refine .condF rfl rfl ?_
  refine .skip (.next (.seq (.sr (.move ?_))))
  refine .lss ?_
  refine .z ?_
  refine .condF rfl (congrArg Value.bool (by first|simp;done|simp;omega|omega)) ?_
  refine .skip (.next (.seq ?_))
  have hD2:=frD_ok ho hD1.1 hr
  have hroom:Room (frD p (frD p D q) r):=hD2.1.room (c:=0) (hrm.mono (by omega))
  refine .dr ([pt s (stO c a p),row b 228 (ndL (⟨x.kd,x.sz,x.bl.set 10 (p.da+q)⟩:Nd))]) [] 15 mixed .autoJ ?_
  refine .tk 0 rfl .move ?_
  refine .tk 1 rfl .nilCheck ?_
  refine .tk 2 rfl (.fa fo266_0) ?_
  refine .tk 3 rfl (.ld sc124) ?_
  refine .tk 4 rfl .move ?_
  refine .tk 5 rfl .nilCheck ?_
  refine .tk 6 rfl (.fa fo228_2) ?_
  refine .tk 7 rfl (.idxA ar226) ?_
  refine .tk 8 rfl (Qt.ldL (xs:=ndL (⟨x.kd,x.sz,x.bl.set 10 (p.da+q)⟩:Nd)) (i:=12) (v:=nI (p.da+q)) sc3 (by have:=ndL_bl (x:=(⟨x.kd,x.sz,x.bl.set 10 (p.da+q)⟩:Nd)) (k:=10) (by simp [hbl]);rw [show ((⟨x.kd,x.sz,x.bl.set 10 (p.da+q)⟩:Nd)).bl.getD 10 0=p.da+q from getD_set_same (by omega)] at this;exact this)) ?_
  refine .on 9 rfl fun hnp=>?_
  refine .call (hc:=Tryz.call183) (sp:=tRead (n:=p.n) (V0:=V0) (V:=frV p (frV p V q) r) (D:=frD p (frD p D q) r) (op:=true) (k:=p.da+q) (by omega) (by omega)) (h:=?_)
  rintro _ _ ⟨gb,kb,el,rfl,⟨hq1,hq2,hl5⟩,rfl⟩
  refine .nil (.wa hnp ?_)
  refine .tk 10 rfl .move ?_
  refine .tk 11 rfl .extract ?_
  refine .tk 12 rfl .extract ?_
  refine .tk 13 rfl .assign ?_
  refine .tk 14 rfl .assign ?_
  refine .fin ?_
  refine .next (.seq (.sr (.move ?_)))
  refine .nei ?_
  refine .z ?_
  refine .condF rfl rfl ?_
  refine .skip (.next (.seq ?_))
  refine .dr ([pt s (stO c a p),row b 228 (ndL (⟨x.kd,x.sz,x.bl.set 10 (p.da+q)⟩:Nd))]) [] 17 mixed .autoJ ?_
  refine .tk 0 rfl .move ?_
  refine .tk 1 rfl .nilCheck ?_
  refine .tk 2 rfl (.fa fo266_0) ?_
  refine .tk 3 rfl (.ld sc124) ?_
  refine .tk 4 rfl .move ?_
  refine .tk 5 rfl .nilCheck ?_
  refine .tk 6 rfl (.fa fo228_2) ?_
  refine .tk 7 rfl (.idxA ar226) ?_
  refine .tk 8 rfl (Qt.ldL (xs:=ndL (⟨x.kd,x.sz,x.bl.set 10 (p.da+q)⟩:Nd)) (i:=12) (v:=nI (p.da+q)) sc3 (by have:=ndL_bl (x:=(⟨x.kd,x.sz,x.bl.set 10 (p.da+q)⟩:Nd)) (k:=10) (by simp [hbl]);rw [show ((⟨x.kd,x.sz,x.bl.set 10 (p.da+q)⟩:Nd)).bl.getD 10 0=p.da+q from getD_set_same (by omega)] at this;exact this)) ?_
  refine .tk 9 rfl .move ?_
  refine .tk 10 rfl .move ?_
  refine .tk 11 rfl .sub ?_
  refine .tk 12 rfl ((Qt.mul).eq (v':=nI (4 * (10 - 10))) (congrArg (Value.int .i64) (by omega))) ?_
  refine .tk 13 rfl .move ?_
  refine .on 14 rfl fun hnp=>?_
  refine .call (hc:=Tryz.call231) (sp:=inPut (q:=4 * (10 - 10)) (v:=p.da+r) Reads.buf hl5 (by decide) (by omega) (by omega)) (h:=?_)
  rintro _ _ ⟨gc,kc,⟨rfl,hc1,hc2⟩,rfl⟩
  refine .nil (.wa hnp ?_)
  refine .on 15 rfl fun hnp=>?_
  refine .call (hc:=Tryz.call135) (sp:=tWrite (n:=p.n) (V0:=V0) (V:=frV p (frV p V q) r) (D:=frD p (frD p D q) r) (k:=p.da+q) (by omega) (by omega) Reads.buf ((put4_length _ _ _).trans hl5) rfl (.inr hroom)) (h:=?_)
  rintro _ _ ⟨rfl,rfl⟩
  refine .nil (.wa hnp ?_)
  refine .tk 16 rfl .assign ?_
  refine .fin ?_
  refine .next ?_
  refine .ret (?_)
  have hd10:(⟨x.kd,x.sz,x.bl.set 10 (p.da+q)⟩:Nd).bl.getD 10 0=p.da+q:=getD_set_same (by omega)
  have hT:=takeB h ho hdk hi rfl hq hqd hr hrd
  unfold inV at hT
  rw [hd10] at hT
  exact .ret1 (h1:=.tmp (t:=6) rfl) ⟨_,⟨_,_,_,hT,rfl,rfl⟩,Am.auto⟩
 ·rw [if_neg (by omega)] at hfree
  have hir:=h.rng i x _ 200 hi (stdS_iff.2 (.inr ⟨rfl,hc⟩))
  rw [ptr_200] at hir
  refine .sr (.assign (.z (.seq (.sr (.move ?_)))))
  refine .eqi ?_
  refine .z ?_
  refine .condF rfl (congrArg Value.bool (by first|simp;done|simp;omega|omega)) ?_
  refine .skip (.next (.sr (.move ?_)))
  refine .call (hc:=Tryz.call273) (sp:=inFresh (V0:=V0) (V:=V) (D:=D) ho hdk (hrm.mono (by omega)) (by omega)) (h:=?_)
  rintro _ _ ⟨q,hq,hqd,rfl,rfl⟩
  simp only [List.cons_append,List.nil_append]
  refine .move ?_
  refine .extract ?_
  refine .extract ?_
  refine .assign (.assign (.z (.seq (.sr (.move ?_)))))
  refine .nei ?_
  refine .z ?_
  refine .condF rfl rfl ?_
  refine .skip (.next (.seq (.sr (.move ?_))))
  refine .lss ?_
  refine .z ?_
  refine .condF rfl (congrArg Value.bool (by first|simp;done|simp;omega|omega)) ?_
  refine .skip (.next (.seq ?_))
  have hD1:=frD_ok ho hdk hq
  have hroom:Room (frD p D q):=hD1.1.room (c:=0) (hrm.mono (by omega))
  refine .dr ([pt s (stO c a p),row b 228 (ndL x)]) [] 15 mixed .autoJ ?_
  refine .tk 0 rfl .move ?_
  refine .tk 1 rfl .nilCheck ?_
  refine .tk 2 rfl (.fa fo266_0) ?_
  refine .tk 3 rfl (.ld sc124) ?_
  refine .tk 4 rfl .move ?_
  refine .tk 5 rfl .nilCheck ?_
  refine .tk 6 rfl (.fa fo228_2) ?_
  refine .tk 7 rfl (.idxA ar226) ?_
  refine .tk 8 rfl (Qt.ldL (xs:=ndL x) (i:=12) (v:=nI (x.bl.getD 10 0)) sc3 (ndL_bl (k:=10) (by omega))) ?_
  refine .on 9 rfl fun hnp=>?_
  refine .call (hc:=Tryz.call183) (sp:=tRead (n:=p.n) (V0:=V0) (V:=frV p (V) q) (D:=frD p (D) q) (op:=true) (k:=x.bl.getD 10 0) (by omega) (by omega)) (h:=?_)
  rintro _ _ ⟨gb,kb,el,rfl,⟨hq1,hq2,hl5⟩,rfl⟩
  refine .nil (.wa hnp ?_)
  refine .tk 10 rfl .move ?_
  refine .tk 11 rfl .extract ?_
  refine .tk 12 rfl .extract ?_
  refine .tk 13 rfl .assign ?_
  refine .tk 14 rfl .assign ?_
  refine .fin ?_
  refine .next (.seq (.sr (.move ?_)))
  refine .nei ?_
  refine .z ?_
  refine .condF rfl rfl ?_
  refine .skip (.next (.seq ?_))
  refine .dr ([pt s (stO c a p),row b 228 (ndL x)]) [] 17 mixed .autoJ ?_
  refine .tk 0 rfl .move ?_
  refine .tk 1 rfl .nilCheck ?_
  refine .tk 2 rfl (.fa fo266_0) ?_
  refine .tk 3 rfl (.ld sc124) ?_
  refine .tk 4 rfl .move ?_
  refine .tk 5 rfl .nilCheck ?_
  refine .tk 6 rfl (.fa fo228_2) ?_
  refine .tk 7 rfl (.idxA ar226) ?_
  refine .tk 8 rfl (Qt.ldL (xs:=ndL x) (i:=12) (v:=nI (x.bl.getD 10 0)) sc3 (ndL_bl (k:=10) (by omega))) ?_
  refine .tk 9 rfl .move ?_
  refine .tk 10 rfl .move ?_
  refine .tk 11 rfl .sub ?_
  refine .tk 12 rfl ((Qt.mul).eq (v':=nI (4 * (k - 10))) (congrArg (Value.int .i64) (by omega))) ?_
  refine .tk 13 rfl .move ?_
  refine .on 14 rfl fun hnp=>?_
  refine .call (hc:=Tryz.call231) (sp:=inPut (q:=4 * (k - 10)) (v:=p.da+q) Reads.buf hl5 (by decide) (by omega) (by omega)) (h:=?_)
  rintro _ _ ⟨gc,kc,⟨rfl,hc1,hc2⟩,rfl⟩
  refine .nil (.wa hnp ?_)
  refine .on 15 rfl fun hnp=>?_
  refine .call (hc:=Tryz.call135) (sp:=tWrite (n:=p.n) (V0:=V0) (V:=frV p (V) q) (D:=frD p (D) q) (k:=x.bl.getD 10 0) (by omega) (by omega) Reads.buf ((put4_length _ _ _).trans hl5) rfl (.inr hroom)) (h:=?_)
  rintro _ _ ⟨rfl,rfl⟩
  refine .nil (.wa hnp ?_)
  refine .tk 16 rfl .assign ?_
  refine .fin ?_
  refine .next ?_
  refine .ret (?_)
  exact .ret1 (h1:=.tmp (t:=6) rfl) ⟨_,⟨_,_,_,takeFa h ho hdk hi hc hk hq hqd,rfl,rfl⟩,Am.auto⟩
theorem inLay {s c a:Nat} {p:Pl} {V0 V:Nat->Bytes} {D:List Nat} {nd:NF} {i at' m cc:Nat} {x:Nd} {S:Nat->Bool} {R:HP} {A:Option Addr} {bs:Bytes} (h:Inv p V nd) (ho:PlOk p) (hi:nd i=some (x,S)) (hdk:Dk p D) (hrm:Rm p D ((bs.length+511) / 512+2)) (hR:bs=[] ∨ Reads R A (bvs bs)) (hm:bs.length=m) (hcc:m<=cc) (hcb:cc<=maxLen)
  (hS:∀ k,at' / 512<=k->512 * k < at'+m->S k=true/\k < 138) (hat:at'<=70656) (hm2:m<=70656) :
  Spec Tryz.prog 150 #[.pointer (some ⟨s,0,none⟩),ndV x,nI at',.slice A m cc] [R,pt s (stO c a p),TR c p.n V0 V D true] fun F v M=>∃ V' D',LayR p V V' x at' (at'+m) bs/\(Dk p D'/\wt p D'<=wt p D+(m+511) / 512+1)/\v=okV/\M=[R,pt s (stO c a p),TR c p.n V0 V' D' true]++F:=by
 refine Spec.intro Tryz.func150 rfl rfl fun B F=>?_
 simp only [Tryz.ntmps150,List.cons_append,List.nil_append,env0,Nat.reduceAdd]
 have hlo:=ho.lo
 have hdat:=ho.dat
 have hfx:=h.fits i x _ hi
 have hbl:=hfx.bl
 have hrng:=fun k hk=>h.rng i x S k hi hk
 have hsok:=h.sok i x S hi
 have hmx:maxLen=9223372036854775807:=rfl
 refine .sr ?_
 refine .boxL (us:=ndL x) fun b5=>?_
 refine .assign (.z (.seq (.block ?_)))
 refine .loopA (σ:=Nat×Option Addr×Nat×(Nat->Bytes)×List Nat) (fun y=>[(0,.pointer (some ⟨s,0,none⟩)),(2,nI (at'+y.1)),(3,.slice y.2.1 (m - y.1) y.2.2.1),(5,.pointer (some ⟨b5,0,none⟩))]) (fun y=>[row b5 228 (ndL x),R,pt s (stO c a p),TR c p.n V0 y.2.2.2.1 y.2.2.2.2 true]++F) (fun y=>y.1<=m/\(bs.drop y.1=[] ∨ Reads R y.2.1 (bvs (bs.drop y.1)))/\LayR p V y.2.2.2.1 x at' (at'+y.1) bs/\Dk p y.2.2.2.2/\(∃ t,wt p y.2.2.2.2<=wt p D+t/\((y.1=0/\t=0) ∨ (y.1=m/\t<=(m+511) / 512+1) ∨ ((at'+y.1) % 512=0/\t=(at'+y.1) / 512 - at' / 512)))/\m - y.1<=y.2.2.1/\y.2.2.1<=maxLen) (fun y=>m - y.1) (0,A,cc,V,D) ⟨Nat.zero_le _,by rw [List.drop_zero];exact hR,LayR.nil h.len x at' bs,hdk,⟨0,Nat.le_refl _,.inl ⟨rfl,rfl⟩⟩,by show m - 0<=cc;omega,hcb⟩ ?_
 rintro ⟨dn,A1,c1,V1,D1⟩ hy
 obtain ⟨hdn,hA,hlay,hdk1,⟨t,hw1,ht⟩,hc1,hc2⟩:=hy
 simp only at hdn hA hlay hdk1 hw1 ht hc1 hc2
 refine .seq (.sr (.move ?_))
 refine .lenS ?_ sl33
 refine .gtr ?_
 refine .z ?_
 refine .cond rfl (fun hb=>?_) (fun hb=>?_)
 ·have hlt:dn < m:=by have:=of_decide_eq_true hb;omega
  obtain ⟨hSk,hk138⟩:=hS ((at'+dn) / 512) (by omega) (by omega)
  have hpr:=hrng _ hSk
  have hst:=hlay.stp h ho hi (by omega) (fun k h1 h2=>hS k h1 (by omega))
  have hpk:=hst.2.2.2.1 _ hSk
  have hA0:=hA.resolve_left (by intro h0;have:=congrArg List.length h0;simp at this;omega)
  rcases A1 with _ | ⟨ab,ao,asp⟩
  ·exact absurd hA0 (fun h0=>by have h2:bvs (bs.drop dn)=[]:=h0;have:=congrArg List.length h2;simp [bvs] at this;omega)
  have hsp:asp=none:=hA0.1
  subst hsp
  have hV200:10<=(at'+dn) / 512->245<=x.bl.getD 10 0/\x.bl.getD 10 0 < p.n:=fun h10=>by
   have:=hrng 200 (hsok.ind _ hSk h10)
   rw [ptr_200] at this
   omega
  obtain ⟨mm,hmm⟩:∃ mm,mm=min (m - dn) (512 - (at'+dn) % 512):=⟨_,rfl⟩
  have hroom:Room D1:=hdk1.room (c:=0) (hrm.mono (by omega))
  have hinj:∀ k l,at' / 512<=k->512 * k < at'+dn+mm->at' / 512<=l->512 * l < at'+dn+mm->ptr V x k=ptr V x l->k=l:=fun k l h1 h2 h3 h4 he=>(h.inj i x S k i x S l hi (hS k h1 (by omega)).1 hi (hS l h3 (by omega)).1 he).2
  have hstep:=hlay.step (m:=mm) (by omega) (by omega) (by omega) (by omega) hk138 hinj
  rw [show at'+dn - at'=dn from by omega] at hstep
  have hyl:(bs.drop dn).length=m - dn:=by rw [List.length_drop];omega
  have hpl:((bs.drop dn).take mm).length=mm:=by rw [List.length_take];omega
  refine .skip (.next (.block (.sr (.move ?_))))
  refine .ldW (xs:=ndL x) ?_ agg228 (ndL_length hbl)
  refine .move ?_
  refine .quo ?_
  refine .cast (d:=21) (u:=nI ((at'+dn) / 512)) rfl (congrArg (Value.int .i64) (by omega)) ?_
  refine .call (hc:=Tryz.call182) (sp:=inBlock (x:=x) (k:=(at'+dn) / 512) (V0:=V0) (V:=V1) (D:=D1) (op:=true) hbl hk138 hV200) (h:=?_)
  rintro _ _ ⟨rfl,rfl⟩
  rw [hpk]
  simp only [List.cons_append,List.nil_append]
  refine .move ?_
  refine .extract ?_
  refine .extract ?_
  refine .assign (.assign (.z (.seq (.sr (.move ?_)))))
  refine .nei ?_
  refine .z ?_
  refine .condF rfl rfl ?_
  refine .skip (.next (.sr (.move ?_)))
  refine .nilCheck ?_
  refine .fa ?_ fo266_0
  refine .ld ?_ sc124
  refine .move ?_
  refine .call (hc:=Tryz.call183) (sp:=tRead (n:=p.n) (V0:=V0) (V:=V1) (D:=D1) (op:=true) (k:=ptr V x ((at'+dn) / 512)) (by omega) (by omega)) (h:=?_)
  rintro _ _ ⟨gb,q,el,rfl,⟨hq1,hq2,hl5⟩,rfl⟩
  refine .move ?_
  refine .extract ?_
  refine .extract ?_
  refine .assign (.assign (.z (.seq (.sr (.move ?_)))))
  refine .nei ?_
  refine .z ?_
  refine .condF rfl rfl ?_
  refine .skip (.next (.sr (.move (.move ?_))))
  refine .rem ?_
  refine .cast (d:=42) (u:=nI ((at'+dn) % 512)) rfl (congrArg (Value.int .i64) (by omega)) ?_
  refine .slcL ?_ so33
  refine .cast (d:=43) (u:=.slice (some ⟨gb,(at'+dn) % 512,none⟩) (512 - (at'+dn) % 512) (q - (at'+dn) % 512)) rfl (by rw [show ((((at'+dn) % 512:Nat)):Int).toNat=(at'+dn) % 512 from Int.toNat_natCast _,if_neg (by omega),Nat.zero_add,Nat.mul_one]) ?_
  refine .move ?_
  refine .copy (m:=m - dn) (xs:=bvs (V1 (ptr V x ((at'+dn) / 512)))) (ys:=bvs (bs.drop dn)) so33 hA0 (by rw [bvs_length];exact hyl) (bvs_single _) ?_ (hdl:=by rw [bvs_length,hl5];omega)
  refine .cast (d:=45) (u:=nI mm) rfl (by rw [hmm];rfl) ?_
  refine .to (A:=buf gb el q ((bvs (V1 (ptr V x ((at'+dn) / 512)))).take ((at'+dn) % 512)++(bvs (bs.drop dn)).take (min (m - dn) (512 - (at'+dn) % 512))++(bvs (V1 (ptr V x ((at'+dn) / 512)))).drop ((at'+dn) % 512+min (m - dn) (512 - (at'+dn) % 512)))) (A':=buf gb el q (bvs (splice (V1 (ptr V x ((at'+dn) / 512))) ((at'+dn) % 512) ((bs.drop dn).take mm)))) (fun h hh=>by rw [<- hmm] at hh;unfold splice;rw [bvs_append,bvs_append,bvs_take,bvs_take,bvs_drop (V1 (ptr V x ((at'+dn) / 512))),hpl];exact hh) ?_
  refine .assign (.z (.seq (.sr (.move ?_))))
  refine .nilCheck ?_
  refine .fa ?_ fo266_0
  refine .ld ?_ sc124
  refine .move (.move ?_)
  refine .call (hc:=Tryz.call135) (sp:=tWrite (n:=p.n) (V0:=V0) (V:=V1) (D:=D1) (k:=ptr V x ((at'+dn) / 512)) (by omega) (by omega) Reads.buf ((splice_length (xs:=V1 (ptr V x ((at'+dn) / 512))) (off:=(at'+dn) % 512) (ys:=(bs.drop dn).take mm) (by rw [hpl,hl5];omega)).trans hl5) rfl (.inr hroom)) (h:=?_)
  rintro _ _ ⟨rfl,rfl⟩
  refine .assign (.x (.move ?_))
  refine .nei ?_
  refine .z ?_
  refine .condF rfl rfl ?_
  refine .skip (.next ?_)
  refine .dr ([]) [] 8 mixed .autoJ ?_
  refine .tk 0 rfl .move ?_
  refine .tk 1 rfl .move ?_
  refine .tk 2 rfl ((Qt.add).eq (v':=nI (at'+(dn+mm))) (congrArg (Value.int .i64) (by omega))) ?_
  refine .tk 3 rfl .move ?_
  refine .tk 4 rfl .move ?_
  refine .tk 5 rfl ((Qt.slcL so33).eq (v':=.slice (if c1=mm then some ⟨ab,ao,none⟩ else some ⟨ab,ao+mm * 1,none⟩) (m - (dn+mm)) (c1 - mm)) (by rw [show ((mm:Nat):Int).toNat=mm from Int.toNat_natCast _,Nat.sub_sub])) ?_
  refine .tk 6 rfl .assign ?_
  refine .tk 7 rfl .assign ?_
  refine .fin ?_
  refine .blockNormal ?_
  have hrest:bs.drop (dn+mm)=[] ∨ Reads R (if c1=mm then some ⟨ab,ao,none⟩ else some ⟨ab,ao+mm * 1,none⟩) (bvs (bs.drop (dn+mm))):=by
   by_cases hcm:c1=mm
   ·exact .inl (List.drop_eq_nil_of_le (by omega))
   ·rw [if_neg hcm,Nat.mul_one,<-List.drop_drop,bvs_drop]
    exact .inr (hA0.drop mm)
  have hin:=inD_ok hdk1 (v:=ptr V x ((at'+dn) / 512)) (by omega) (by omega)
  exact .back (dn+mm,if c1=mm then some ⟨ab,ao,none⟩ else some ⟨ab,ao+mm * 1,none⟩,c1 - mm,_,insD D1 (ptr V x ((at'+dn) / 512))) ⟨by show dn+mm<=m;omega,hrest,by rw [show at'+(dn+mm)=at'+dn+mm from by omega];exact hstep,hin.1,⟨t+1,by show wt p (insD D1 _)<=_;omega,by show (dn+mm=0/\_) ∨ (dn+mm=m/\_) ∨ ((at'+(dn+mm)) % 512=0/\_);omega⟩,by show m - (dn+mm)<=c1 - mm;omega,by show c1 - mm<=maxLen;omega⟩ (by show m - (dn+mm) < m - dn;omega)
 ·have hge:¬ dn < m:=by have:=of_decide_eq_false hb;omega
  have hdm:dn=m:=by omega
  subst hdm
  refine .exit (.thenExit (.thenExit (.blockExit (?_))))
  refine .next (.sr (.assign (.z ?_)))
  refine .ret (?_)
  exact .ret1 (h1:=.tmp (t:=8) rfl) ⟨_,⟨_,_,hlay,⟨hdk1,by omega⟩,rfl,rfl⟩,Am.auto⟩
def hs (k:Nat):Nat:=k+(if 10 < k then 1 else 0)
theorem has_hs (n:Nat):has n=hs (dat n):=by
 unfold has hs
 split
 ·rw [if_neg (by omega)];rfl
 ·rw [if_pos (by omega)]
theorem hs_succ (k:Nat):hs (k+1)=hs k+(if k=10 then 2 else 1):=by
 unfold hs
 by_cases h:k=10
 ·subst h;rfl
 ·rw [if_neg h]
  by_cases h2:10 < k
  ·rw [if_pos h2,if_pos (by omega)]
  ·rw [if_neg h2,if_neg (by omega)]
theorem hs_mono {j k:Nat} (h:j<=k):hs j<=hs k:=by
 unfold hs
 split<;>split<;>omega
theorem dat_mono {j k:Nat} (h:j<=k):dat j<=dat k:=by unfold dat;omega
structure GrI (p:Pl) (V V1:Nat->Bytes) (nd:NF) (i:Nat) (x:Nd) (D D1:List Nat):Prop where
 inv:Inv p V1 nd
 kp:Kp p V V1 nd i
 cn:cnt V1 p.bm p.dc=cnt V p.bm p.dc
 old:∀ q,q < x.sz->fb V1 x q=fb V x q
 new:∀ q,x.sz<=q->q < 512 * dat x.sz->fb V1 x q=0
 dk:Dk p D1
 wt:wt p D1<=wt p D+2
structure GrL (p:Pl) (V V1:Nat->Bytes) (nd:NF) (i:Nat) (x x1:Nd) (D D1:List Nat) (k:Nat):Prop where
 inv:Inv p V1 (updF nd i (some (x1,stdS k)))
 kp:Kp p V V1 nd i
 kd:x1.kd=x.kd
 sz:x1.sz=x.sz
 cn:cnt V1 p.bm p.dc+hs (dat x.sz)=cnt V p.bm p.dc+hs k
 old:∀ q,q < x.sz->fb V1 x1 q=fb V x q
 new:∀ q,x.sz<=q->q < 512 * k->fb V1 x1 q=0
 dk:Dk p D1
 wt:wt p D1+hs (dat x.sz)<=wt p D+2+hs k+(if 10 < k/\x1.bl.getD 10 0∈D1 then 1 else 0)
structure GrowP (p:Pl) (V V1:Nat->Bytes) (nd:NF) (i:Nat) (x x1:Nd) (D D1:List Nat) (size:Nat):Prop where
 inv:Inv p V1 (updF nd i (some (x1,stdS (dat size))))
 kp:Kp p V V1 nd i
 kd:x1.kd=x.kd
 sz:x1.sz=size
 cn:cnt V1 p.bm p.dc+has x.sz=cnt V p.bm p.dc+has size
 byt:∀ q,q < size->fb V1 x1 q=if q < x.sz then fb V x q else 0
 dk:Dk p D1
 wt:wt p D1+has x.sz<=wt p D+3+has size
theorem updF_self {nd:NF} {i:Nat} {y:Option (Nd×(Nat->Bool))} (h:nd i=y):updF nd i y=nd:=by
 funext j
 unfold updF
 split
 ·rename_i hj;rw [hj,h]
 ·rfl
theorem GrI.refl {p:Pl} {V:Nat->Bytes} {nd:NF} {i:Nat} {x:Nd} {D:List Nat} (h:Inv p V nd) (hr:x.sz % 512=0) (hd:Dk p D):GrI p V V nd i x D D :=
 ⟨h,Kp.refl _ _ _ _,rfl,fun _ _=>rfl,fun q h1 h2=>by unfold dat at h2;omega,hd,by omega⟩
theorem GrI.of {p:Pl} {V V1:Nat->Bytes} {nd:NF} {i:Nat} {x:Nd} {D D1:List Nat} (h:Inv p V nd) (ho:PlOk p) (hi:nd i=some (x,stdS (dat x.sz))) (hb:x.sz<=70656) (hr:0 < x.sz % 512)
  (hl:LayR p V V1 x x.sz (x.sz+(512 - x.sz % 512)) (List.replicate (512 - x.sz % 512) 0)) (hd:Dk p D1) (hw:Go.Proofs.YtdmjkjeoamiedaaGreatDoor.wt p D1<=Go.Proofs.YtdmjkjeoamiedaaGreatDoor.wt p D+(512 - x.sz % 512+511) / 512+1):GrI p V V1 nd i x D D1:=by
 have hm:=dat_le hb
 have hdat:512 * dat x.sz=x.sz+(512 - x.sz % 512):=by unfold dat;omega
 obtain ⟨h1,h2,h3,h4,h5⟩:=hl.stp h ho hi (by omega) (fun k k1 k2=>⟨stdS_iff.2 (.inl (by unfold dat at *;omega)),by unfold dat at *;omega⟩)
 have hS:∀ q,q < 512 * dat x.sz->q / 512 < 138/\stdS (dat x.sz) (q / 512)=true:=fun q hq=>⟨by omega,stdS_iff.2 (.inl (by omega))⟩
 refine ⟨h1,h2,cnt_same h3,fun q hq=>?_,fun q k1 k2=>?_,hd,by omega⟩
 ·obtain ⟨e1,e2⟩:=hS q (by omega)
  rw [h5 q e1 e2,if_neg (by omega)]
 ·obtain ⟨e1,e2⟩:=hS q k2
  rw [h5 q e1 e2,if_pos ⟨k1,by omega⟩,List.getD_eq_getElem?_getD,List.getElem?_replicate]
  split<;>rfl
theorem GrI.begin {p:Pl} {V V1:Nat->Bytes} {nd:NF} {i:Nat} {x:Nd} {D D1:List Nat} (h:GrI p V V1 nd i x D D1) (hi:nd i=some (x,stdS (dat x.sz))):GrL p V V1 nd i x x D D1 (dat x.sz) :=
 ⟨by rw [updF_self hi];exact h.inv,h.kp,rfl,rfl,by rw [h.cn],h.old,h.new,h.dk,by have:=h.wt;omega⟩
theorem GrL.step {p:Pl} {V V1 V2:Nat->Bytes} {nd:NF} {i:Nat} {x x1 x2:Nd} {D D1 D2:List Nat} {k:Nat} (h0:Inv p V nd) (h:GrL p V V1 nd i x x1 D D1 k) (hk:dat x.sz<=k) (hk2:k < 138) (ht:TakeP p V1 V2 (updF nd i (some (x1,stdS k))) i x1 x2 D1 D2 k):GrL p V V2 nd i x x2 D D2 (k+1):=by
 have hfb:∀ q,q < 512 * k->fb V2 x2 q=fb V1 x1 q:=fun q hq=>ht.stp.fb (by omega) (stdS_iff.2 (.inl (by omega))) (stdS_iff.2 (.inl (by omega)))
 have hsz:x.sz<=512 * k:=by unfold dat at hk;omega
 have e1:=hs_succ k
 have e2:=ht.wt
 have e3:=h.wt
 refine ⟨?_,?_,ht.stp.kd.trans h.kd,ht.stp.sz.trans h.sz,?_,fun q hq=>?_,fun q k1 k2=>?_,ht.dk,?_⟩
 ·have:=ht.stp.inv
  rwa [updF_updF] at this
 ·exact h.kp.trans ht.stp.kp h0.sok (fun j hj=>updF_other _ _ hj)
 ·have:=h.cn
  have:=ht.cn
  omega
 ·rw [hfb q (by omega),h.old q hq]
 ·by_cases hq:q < 512 * k
  ·rw [hfb q hq];exact h.new q k1 hq
  ·have:=ht.new (q - 512 * k) (by omega)
   rwa [show 512 * k+(q - 512 * k)=q from by omega] at this
 ·by_cases c:10<=k
  ·have e4:=ht.ind c
   rw [if_pos ⟨by omega,e4⟩]
   by_cases c2:10 < k
   ·rw [if_pos c2,if_neg (show ¬ k=10 by omega)] at e2
    rw [if_neg (show ¬ k=10 by omega)] at e1
    by_cases c3:x1.bl.getD 10 0∈D1
    ·rw [if_pos ⟨c2,c3⟩] at e2 e3;omega
    ·rw [if_neg (fun hh=>c3 hh.2)] at e2 e3;omega
   ·rw [if_neg c2,if_neg (fun hh=>c2 hh.1)] at e2
    rw [if_neg (fun hh=>c2 hh.1)] at e3
    omega
  ·rw [if_neg (by omega),if_neg (by omega),if_neg (by omega)] at e2
   rw [if_neg (by omega)] at e3
   rw [if_neg (by omega)] at e1
   rw [if_neg (by omega)]
   omega
theorem GrL.done {p:Pl} {V V1:Nat->Bytes} {nd:NF} {i:Nat} {x x1:Nd} {D D1:List Nat} {size:Nat} (h:GrL p V V1 nd i x x1 D D1 (dat size)) (hs1:x.sz<=size) (hs2:size<=70656):GrowP p V V1 nd i x ⟨x1.kd,size,x1.bl⟩ D D1 size:=by
 have e3:=h.wt
 have hfx:=h.inv.fits i x1 _ (updF_same ..)
 refine ⟨?_,h.kp,h.kd,rfl,by rw [has_hs,has_hs];exact h.cn,fun q hq=>?_,h.dk,?_⟩
 ·refine h.inv.same h.inv.len (fun _ _=>rfl) (fun _ _=>rfl) fun j=>?_
  by_cases hj:j=i
  ·subst hj
   refine .inr ⟨x1,_,stdS (dat size),updF_same ..,updF_same ..,⟨hfx.bl,fun v hv=>?_⟩,fun _ _=>rfl⟩
   simp only [Nd.nums,List.mem_cons] at hv
   rcases hv with rfl | rfl | hv
   ·exact hfx.lt _ (by simp [Nd.nums])
   ·omega
   ·exact hfx.lt _ (by simp [Nd.nums,hv])
  ·rw [updF_other _ _ hj,updF_other _ _ hj]
   cases hn:nd j with
   | none=>exact .inl ⟨rfl,rfl⟩
   | some y =>
    obtain ⟨y,T⟩:=y
    exact .inr ⟨y,y,T,rfl,rfl,h.inv.fits j y T (by rw [updF_other _ _ hj];exact hn),fun _ _=>rfl⟩
 ·show fb V1 x1 q=_
  split
  ·rename_i hlt;exact h.old q hlt
  ·rename_i hge;exact h.new q (by omega) (by unfold dat;omega)
 ·rw [has_hs,has_hs]
  split at e3<;>omega
theorem inGrow {s c a:Nat} {p:Pl} {V0 V:Nat->Bytes} {D:List Nat} {nd:NF} {i b size:Nat} {x:Nd} (h:Inv p V nd) (ho:PlOk p) (hi:nd i=some (x,stdS (dat x.sz))) (hdk:Dk p D) (hs1:x.sz < size) (hs2:size<=70656) (hrm:Rm p D (has size - has x.sz+6)) :
  Spec Tryz.prog 148 #[.pointer (some ⟨s,0,none⟩),.pointer (some ⟨b,0,none⟩),nI size] [pt s (stO c a p),pt a (alO c p),TR c p.n V0 V D true,row b 228 (ndL x)] fun F v M =>
   (p.dc+has x.sz < cnt V p.bm p.dc+has size/\v=.int .i64 3/\M=[pt s (stO c a p),pt a (alO c p),TR c p.n V0 V D true,row b 228 (ndL x)]++F) ∨
   (cnt V p.bm p.dc+has size<=p.dc+has x.sz/\∃ x' V' D',GrowP p V V' nd i x x' D D' size/\v=okV/\M=[pt s (stO c a p),pt a (alO c p),TR c p.n V0 V' D' true,row b 228 (ndL x')]++F):=by
 refine Spec.intro Tryz.func148 rfl rfl fun B F=>?_
 simp only [Tryz.ntmps148,List.cons_append,List.nil_append,env0,Nat.reduceAdd]
 have hlo:=ho.lo
 have hdat:=ho.dat
 have hfx:=h.fits i x _ hi
 have hbl:=hfx.bl
 have hnl:=ndL_length hbl
 have hd1:=dat_le (show x.sz<=70656 by omega)
 have hd2:=dat_le hs2
 have hdm:=dat_mono (show x.sz<=size by omega)
 have hhm:has x.sz<=has size:=by rw [has_hs,has_hs];exact hs_mono hdm
 have hcl:=cnt_le V p.bm p.dc
 have hhb:has size<=139:=by rw [has_hs];unfold hs;split<;>omega
 have hhb2:has x.sz<=139:=by omega
 have hszg:(ndL x)[1]?=some (nI x.sz):=rfl
 refine .sr (.assign (.z (.seq (.sr (.move ?_)))))
 refine .nilCheck ?_
 refine .fa ?_ fo266_1
 refine .ld ?_ sc125
 refine .call (hc:=Tryz.call112) (sp:=alFree (V0:=V0) (V:=V) (D:=D) (op:=true) ho) (h:=?_)
 rintro _ _ ⟨rfl,rfl⟩
 simp only [List.cons_append,List.nil_append]
 refine .move ?_
 refine .extract ?_
 refine .extract ?_
 refine .assign (.assign (.z (.seq ?_)))
 refine .dr ([row b 228 (ndL x)]) [] 10 mixed .autoJ ?_
 refine .tk 0 rfl .move ?_
 refine .tk 2 rfl .move ?_
 refine .tk 3 rfl .nilCheck ?_
 refine .tk 4 rfl (.fa fo228_1) ?_
 refine .tk 5 rfl (Qt.ldL (xs:=ndL x) (i:=1) sc3 hszg) ?_
 refine .tk 8 rfl .move ?_
 refine .on 1 rfl fun hnp=>?_
 refine .call (hc:=Tryz.call227) (sp:=inHas (k:=size) (by omega)) (h:=?_)
 rintro _ _ ⟨rfl,rfl⟩
 refine .nil (.wa hnp ?_)
 refine .on 6 rfl fun hnp=>?_
 refine .call (hc:=Tryz.call227) (sp:=inHas (k:=x.sz) (by omega)) (h:=?_)
 rintro _ _ ⟨rfl,rfl⟩
 refine .nil (.wa hnp ?_)
 refine .tk 7 rfl .sub ?_
 refine .tk 9 rfl .gtr ?_
 refine .fin ?_
 by_cases hfull:p.dc+has x.sz < cnt V p.bm p.dc+has size
 ·refine .next ?_
  refine .condT rfl (congrArg Value.bool (by first|simp;done|simp;omega|omega)) ?_
  refine .sr (.assign (.z ?_))
  refine .ret (.thenRet (?_))
  exact .ret1 (h1:=.tmp (t:=6) rfl) ⟨_,.inl ⟨hfull,rfl,rfl⟩,Am.auto⟩
 ·refine .next ?_
  refine .condF rfl (congrArg Value.bool (by first|simp;done|simp;omega|omega)) ?_
  refine .skip (.next (.seq (.sr (.move ?_))))
  refine .nilCheck ?_
  refine .fa ?_ fo228_1
  refine .ldL (xs:=ndL x) (i:=1) ?_ sc3 hszg
  refine .rem ?_
  refine .cast (d:=35) (u:=nI (x.sz % 512)) rfl (congrArg (Value.int .i64) (by omega)) ?_
  refine .assign (.x (.move ?_))
  refine .gtr ?_
  refine .z ?_
  refine .join (σ:=(Nat->Bytes)×List Nat) (fun y=>[(0,.pointer (some ⟨s,0,none⟩)),(1,.pointer (some ⟨b,0,none⟩)),(2,nI size)]) (fun y=>[pt s (stO c a p),pt a (alO c p),TR c p.n V0 y.1 y.2 true,row b 228 (ndL x)]++F) (fun y=>GrI p V y.1 nd i x D y.2) ?_ ?_
  ·by_cases hr:0 < x.sz % 512
   ·refine .condT rfl (congrArg Value.bool (by first|simp;done|simp;omega|omega)) ?_
    refine .seq ?_
    refine .dr ([row b 228 (ndL x)]) [] 13 mixed .autoJ ?_
    refine .tk 0 rfl .move ?_
    refine .tk 1 rfl .move ?_
    refine .tk 2 rfl .nilCheck ?_
    refine .tk 3 rfl (Qt.ldW (xs:=ndL x) agg228 hnl) ?_
    refine .tk 4 rfl .move ?_
    refine .tk 5 rfl .nilCheck ?_
    refine .tk 6 rfl (.fa fo228_1) ?_
    refine .tk 7 rfl (Qt.ldL (xs:=ndL x) (i:=1) sc3 hszg) ?_
    refine .tk 8 rfl .move ?_
    refine .tk 9 rfl ((Qt.sub).eq (v':=.int .i64 ((512 - x.sz % 512:Nat):Int)) (congrArg (Value.int .i64) (by omega))) ?_
    refine .on 10 rfl fun hnp=>?_
    refine .mkS (k:=((512 - x.sz % 512:Nat):Int)) z5 (fun b48=>?_) so33 (by omega) (by omega) (by omega)
    refine .to (A:=buf b48 5 ((512 - x.sz % 512:Nat):Int).toNat (List.replicate ((512 - x.sz % 512:Nat):Int).toNat (.int .u8 0))) (A':=buf b48 5 (512 - x.sz % 512) (bvs (List.replicate (512 - x.sz % 512) 0))) (fun h hh=>by rw [bvs_replicate];rw [Int.toNat_natCast] at hh;exact hh) ?_
    refine .nil (.wa hnp ?_)
    refine .on 11 rfl fun hnp=>?_
    refine .call (hc:=Tryz.call150) (sp:=inLay (x:=x) (at':=x.sz) (bs:=List.replicate (512 - x.sz % 512) 0) (V0:=V0) (V:=V) (D:=D) h ho hi hdk (hrm.mono (by rw [List.length_replicate];omega)) (.inr Reads.buf) List.length_replicate (Nat.le_refl _) (by unfold maxLen;omega) (fun k k1 k2=>⟨stdS_iff.2 (.inl (by unfold dat at *;omega)),by unfold dat at *;omega⟩) (by omega) (by omega)) (h:=?_)
    rintro _ _ ⟨V1,D1,hlay,⟨hdk1,hw1⟩,rfl,rfl⟩
    simp only [List.cons_append,List.nil_append]
    refine .nil (.wa hnp ?_)
    refine .tk 12 rfl .assign ?_
    refine .fin ?_
    refine .next (.sr (.move ?_))
    refine .nei ?_
    refine .z ?_
    refine .condF rfl rfl ?_
    refine .skip ?_
    exact .joined (V1,D1) (GrI.of h ho hi (by omega) hr hlay hdk1 hw1)
   ·refine .condF rfl (congrArg Value.bool (by first|simp;done|simp;omega|omega)) ?_
    refine .skip ?_
    exact .joined (V,D) (GrI.refl h (by omega) hdk)
  ·rintro ⟨V1,D1⟩ hI
   have hinv1:=hI.inv
   refine .next (.seq (.sr (.move ?_)))
   refine .nilCheck ?_
   refine .fa ?_ fo228_1
   refine .ldL (xs:=ndL x) (i:=1) ?_ sc3 hszg
   refine .call (hc:=Tryz.call228) (sp:=inData (k:=x.sz) (by omega)) (h:=?_)
   rintro _ _ ⟨rfl,rfl⟩
   refine .assign (.z (.block ?_))
   refine .loopA (σ:=Nat×Nd×(Nat->Bytes)×List Nat) (fun y=>[(0,.pointer (some ⟨s,0,none⟩)),(1,.pointer (some ⟨b,0,none⟩)),(2,nI size),(11,nI y.1)]) (fun y=>[pt s (stO c a p),pt a (alO c p),TR c p.n V0 y.2.2.1 y.2.2.2 true,row b 228 (ndL y.2.1)]++F) (fun y=>dat x.sz<=y.1/\y.1<=dat size/\GrL p V y.2.2.1 nd i x y.2.1 D y.2.2.2 y.1) (fun y=>dat size - y.1) (dat x.sz,x,V1,D1) ⟨Nat.le_refl _,hdm,hI.begin hi⟩ ?_
   rintro ⟨k,x1,V1,D1⟩ hy
   obtain ⟨hk1,hk2,hL⟩:=hy
   simp only at hk1 hk2 hL
   refine .seq (.sr (.move (.move ?_)))
   refine .call (hc:=Tryz.call228) (sp:=inData (k:=size) (by omega)) (h:=?_)
   rintro _ _ ⟨rfl,rfl⟩
   refine .lss ?_
   refine .z ?_
   refine .cond rfl (fun hb=>?_) (fun hb=>?_)
   ·have hlt:k < dat size:=by have:=of_decide_eq_true hb;omega
    have hcnl:=hL.cn
    have hwtl:=hL.wt
    have hss:=hs_succ k
    have hss2:hs (k+1)<=hs (dat size):=hs_mono hlt
    have hhs1:=has_hs x.sz
    have hhs2:=has_hs size
    refine .skip (.next (.seq (.block (.sr (.move (.move (.move ?_)))))))
    refine .call (hc:=Tryz.call229) (sp:=inTake (i:=i) (b:=b) (k:=k) (x:=x1) (V0:=V0) (V:=V1) (D:=D1) hL.inv ho (updF_same ..) (by omega) hL.dk (hrm.mono (by split at hwtl<;>omega)) (by omega)) (h:=?_)
    rintro _ _ ⟨x2,V2,D2,hT,rfl,rfl⟩
    simp only [List.cons_append,List.nil_append]
    refine .assign (.x (.move ?_))
    refine .nei ?_
    refine .z ?_
    refine .condF rfl rfl ?_
    refine .skip (.blockNormal (.next (.region (.move ?_))))
    refine .add ?_
    refine .assign (.nil ?_)
    refine .cast (d:=11) (u:=nI (k+1)) rfl (congrArg (Value.int .i64) (by omega)) ?_
    exact .back (k+1,x2,V2,D2) ⟨by show dat x.sz<=k+1;omega,by show k+1<=dat size;omega,hL.step h hk1 (by omega) hT⟩ (by show dat size - (k+1) < dat size - k;omega)
   ·have hge:¬ k < dat size:=by have:=of_decide_eq_false hb;omega
    have hke:k=dat size:=by omega
    subst hke
    have hfx1:=hL.inv.fits i x1 _ (updF_same ..)
    refine .exit (.thenExit (.thenExit (.blockExit (?_))))
    refine .next (.sr (.move (.move ?_)))
    refine .nilCheck ?_
    refine .fa ?_ fo228_1
    refine .stL (xs:=ndL x1) (i:=1) ?_ sc3 (by rw [ndL_length hfx1.bl];decide)
    refine .to (A:=row b 228 ((ndL x1).set 1 (nI size))) (A':=row b 228 (ndL ⟨x1.kd,size,x1.bl⟩)) (fun h hh=>hh) ?_
    refine .x (.assign (.z ?_))
    refine .ret (?_)
    exact .ret1 (h1:=.tmp (t:=6) rfl) ⟨_,.inr ⟨by omega,_,_,_,hL.done (by omega) hs2,rfl,rfl⟩,Am.auto⟩
def gS (d m k:Nat):Nat->Bool:=fun l=>decide (l < d) || (decide (k<=l) && decide (l < m)) || (decide (l=200) && decide (10 < m))
theorem gS_iff {d m k l:Nat}:gS d m k l=true ↔ l < d ∨ (k<=l/\l < m) ∨ (l=200/\10 < m):=by simp [gS,or_assoc]
structure GiL (p:Pl) (V V1:Nat->Bytes) (nd:NF) (i:Nat) (x x1:Nd) (D D1:List Nat) (size k:Nat) (S:Nat->Bool):Prop where
 inv:Inv p V1 (updF nd i (some (x1,S)))
 kp:Kp p V V1 nd i
 kd:x1.kd=x.kd
 sz:x1.sz=x.sz
 cn:cnt V1 p.bm p.dc+k=cnt V p.bm p.dc
 old:∀ q,q < size->fb V1 x1 q=fb V x q
 dk:Dk p D1
 wt:wt p D1=wt p D
theorem GiL.step {p:Pl} {V V1:Nat->Bytes} {nd:NF} {i:Nat} {x x1 x2:Nd} {D D1:List Nat} {size k c b:Nat} {S S':Nat->Bool} (h0:Inv p V nd) (ho:PlOk p) (h:GiL p V V1 nd i x x1 D D1 size k S) (hSc:S c=true) (hb:ptr V1 x1 c=p.da+b)
  (hx:x2=x1/\10<=c/\c≠200 ∨ c < 10/\x2=⟨x1.kd,x1.sz,x1.bl.set c 0⟩ ∨ c=200/\x2=⟨x1.kd,x1.sz,x1.bl.set 10 0⟩/\∀ l,S l=true->l < 10 ∨ l=200) (hS:∀ l,S' l=true ↔ S l=true/\l≠c)
  (hlow:∀ q,q < size->q / 512 < 138/\S' (q / 512)=true):GiL p V (setD V1 p.bm b false) nd i x x2 D (insD D1 (p.bm+b / 4096)) size (k+1) S':=by
 obtain ⟨h1,h2,h3⟩:=giveStp h.inv ho (updF_same ..) hSc hb hx hS
 have hmp:=ho.mapAt h2
 have hlo:=ho.lo
 have hwt:=(wt_ins p D1 (p.bm+b / 4096)).2.1 hmp
 refine ⟨?_,h.kp.trans h1.kp h0.sok (fun j hj=>updF_other _ _ hj),h1.kd.trans h.kd,h1.sz.trans h.sz,?_,fun q hq=>?_,h.dk.ins (by omega) (by omega),hwt.trans h.wt⟩
 ·have:=h1.inv
  rwa [updF_updF] at this
 ·have e1:cnt (setD V1 p.bm b false) p.bm p.dc+1=cnt V1 p.bm p.dc:=cnt_false h2 h3 fun l hl=>dig_setD h.inv.len _ _ _ _
  have:=h.cn
  omega
 ·obtain ⟨k1,k2⟩:=hlow q hq
  rw [h1.fb k1 ((hS _).1 k2).1 k2,h.old q hq]
theorem inGive {s c a:Nat} {p:Pl} {V0 V:Nat->Bytes} {D:List Nat} {nd:NF} {i b size:Nat} {x:Nd} (h:Inv p V nd) (ho:PlOk p) (hi:nd i=some (x,stdS (dat x.sz))) (hdk:Dk p D) (hs1:size<=x.sz) (hs2:x.sz<=70656) (hrm:Rm p D 1) :
  Spec Tryz.prog 179 #[.pointer (some ⟨s,0,none⟩),.pointer (some ⟨b,0,none⟩),nI size] [pt s (stO c a p),pt a (alO c p),TR c p.n V0 V D true,row b 228 (ndL x)] fun F v M=>∃ x' V' D',GiL p V V' nd i x x' D D' size (has x.sz - has size) (stdS (dat size))/\v=okV/\M=[pt s (stO c a p),pt a (alO c p),TR c p.n V0 V' D' true,row b 228 (ndL x')]++F:=by
 refine Spec.intro Tryz.func179 rfl rfl fun B F=>?_
 simp only [Tryz.ntmps179,List.cons_append,List.nil_append,env0,Nat.reduceAdd]
 have hlo:=ho.lo
 have hpd:=ho.dat
 have hd2:=dat_le hs2
 have hdm:=dat_mono hs1
 have hgi:GiL p V V nd i x x D D size 0 (gS (dat size) (dat x.sz) (dat size)):=by
  refine ⟨?_,Kp.refl _ _ _ _,rfl,rfl,rfl,fun _ _=>rfl,hdk,rfl⟩
  have he:gS (dat size) (dat x.sz) (dat size)=stdS (dat x.sz):=by
   funext l
   rw [Bool.eq_iff_iff,gS_iff,stdS_iff]
   omega
  rw [he,updF_self hi]
  exact h
 refine .sr (.assign (.z (.seq (.sr (.move ?_)))))
 refine .call (hc:=Tryz.call228) (sp:=inData (k:=size) (by omega)) (h:=?_)
 rintro _ _ ⟨rfl,rfl⟩
 refine .assign (.z (.block ?_))
 refine .loopA (σ:=Nat×Nd×(Nat->Bytes)×List Nat) (fun y=>[(0,.pointer (some ⟨s,0,none⟩)),(1,.pointer (some ⟨b,0,none⟩)),(2,nI size),(7,nI y.1)]) (fun y=>[pt s (stO c a p),pt a (alO c p),TR c p.n V0 y.2.2.1 y.2.2.2 true,row b 228 (ndL y.2.1)]++F) (fun y=>dat size<=y.1/\y.1<=dat x.sz/\GiL p V y.2.2.1 nd i x y.2.1 D y.2.2.2 size (y.1 - dat size) (gS (dat size) (dat x.sz) y.1)) (fun y=>dat x.sz - y.1) (dat size,x,V,D) ⟨Nat.le_refl _,hdm,by show GiL p V V nd i x x D D size (dat size - dat size) _;rw [Nat.sub_self];exact hgi⟩ ?_
 rintro ⟨k,x1,V1,D1⟩ hy
 obtain ⟨hk1,hk2,hL⟩:=hy
 simp only at hk1 hk2 hL
 have hfx1:=hL.inv.fits i x1 _ (updF_same ..)
 have hbl1:=hfx1.bl
 have hszg:(ndL x1)[1]?=some (nI x.sz):=by rw [<- hL.sz];rfl
 refine .seq (.sr (.move (.move ?_)))
 refine .nilCheck ?_
 refine .fa ?_ fo228_1
 refine .ldL (xs:=ndL x1) (i:=1) ?_ sc3 hszg
 refine .call (hc:=Tryz.call228) (sp:=inData (k:=x.sz) (by omega)) (h:=?_)
 rintro _ _ ⟨rfl,rfl⟩
 refine .lss ?_
 refine .z ?_
 refine .cond rfl (fun hb=>?_) (fun hb=>?_)
 ·have hlt:k < dat x.sz:=by have:=of_decide_eq_true hb;omega
  have hSk:gS (dat size) (dat x.sz) k k=true:=gS_iff.2 (.inr (.inl ⟨Nat.le_refl _,hlt⟩))
  have hrk:=hL.inv.rng i x1 _ k (updF_same ..) hSk
  obtain ⟨bk,hbk⟩:∃ bk,ptr V1 x1 k=p.da+bk:=⟨ptr V1 x1 k - p.da,by omega⟩
  have hV200:10<=k->245<=x1.bl.getD 10 0/\x1.bl.getD 10 0 < p.n:=fun h10=>by
   have:=hL.inv.rng i x1 _ 200 (updF_same ..) (gS_iff.2 (.inr (.inr ⟨rfl,by omega⟩)))
   rw [ptr_200] at this
   omega
  have hroom:Room D1:=hL.dk.room (c:=0) (hrm.mono (by have:=hL.wt;omega))
  have hbd:bk < p.dc:=by omega
  have hdg:dig V1 p.bm bk=true:=(hL.inv.map bk hbd).2 ⟨i,x1,_,k,updF_same ..,hSk,hbk⟩
  have hS:∀ l,gS (dat size) (dat x.sz) (k+1) l=true ↔ gS (dat size) (dat x.sz) k l=true/\l≠k:=fun l=>by rw [gS_iff,gS_iff];omega
  have hlow:∀ q,q < size->q / 512 < 138/\gS (dat size) (dat x.sz) (k+1) (q / 512)=true:=fun q hq=>by
   have h1:q / 512 < dat size:=by unfold dat;omega
   exact ⟨by omega,gS_iff.2 (.inl h1)⟩
  by_cases h10:k < 10
  ·refine .skip (.next (.seq (.block (.sr (.move (.move ?_))))))
   refine .nilCheck ?_
   refine .ldW (xs:=ndL x1) ?_ agg228 (ndL_length hbl1)
   refine .move ?_
   refine .call (hc:=Tryz.call182) (sp:=inBlock (x:=x1) (k:=k) (V0:=V0) (V:=V1) (D:=D1) (op:=true) hbl1 (by omega) hV200) (h:=?_)
   rintro _ _ ⟨rfl,rfl⟩
   rw [hbk]
   simp only [List.cons_append,List.nil_append]
   refine .move ?_
   refine .extract ?_
   refine .extract ?_
   refine .assign (.assign (.z (.seq (.sr (.move ?_)))))
   refine .eqi ?_
   refine .z ?_
   refine .condT rfl rfl ?_
   refine .region (.move ?_)
   refine .nilCheck ?_
   refine .fa ?_ fo266_1
   refine .ld ?_ sc125
   refine .move ?_
   refine .call (hc:=Tryz.call249) (sp:=alGiveBlock (k:=bk) (V0:=V0) (V:=V1) (D:=D1) ho hroom hbd hdg) (h:=?_)
   rintro _ _ ⟨rfl,rfl⟩
   simp only [List.cons_append,List.nil_append]
   refine .assign (.z (.seq (.sr (.move ?_))))
   refine .nei ?_
   refine .z ?_
   refine .condF rfl rfl ?_
   refine .skip (.next (.sr (.move ?_)))
   refine .lss ?_
   refine .z ?_
   refine .condT rfl (congrArg Value.bool (by first|simp;done|simp;omega|omega)) ?_
   refine .region (.move (.move ?_))
   refine .nilCheck ?_
   refine .fa ?_ fo228_2
   refine .idxA ?_ ar226
   refine .stL (xs:=ndL x1) (i:=0+2+((k:Nat):Int).toNat * 1) ?_ sc3 (by rw [ndL_length hbl1];omega)
   refine .to (A:=row b 228 ((ndL x1).set (0+2+((k:Nat):Int).toNat * 1) (nI 0))) (A':=row b 228 (ndL ⟨x1.kd,x1.sz,x1.bl.set k 0⟩)) (fun h hh=>by rw [show 0+2+((k:Nat):Int).toNat * 1=2+k from by omega,ndL_set] at hh;exact hh) ?_
   refine .nil (.blockNormal (.next (.region (.move ?_))))
   refine .add ?_
   refine .assign (.nil ?_)
   refine .cast (d:=7) (u:=nI (k+1)) rfl (congrArg (Value.int .i64) (by omega)) ?_
   exact .back (k+1,⟨x1.kd,x1.sz,x1.bl.set k 0⟩,_,_) ⟨by show dat size<=k+1;omega,by show k+1<=dat x.sz;omega,by have hst:=hL.step h ho hSk hbk (.inr (.inl ⟨h10,rfl⟩)) hS hlow;rw [show k - dat size+1=k+1 - dat size from by omega] at hst;exact hst⟩ (by show dat x.sz - (k+1) < dat x.sz - k;omega)
  ·refine .skip (.next (.seq (.block (.sr (.move (.move ?_))))))
   refine .nilCheck ?_
   refine .ldW (xs:=ndL x1) ?_ agg228 (ndL_length hbl1)
   refine .move ?_
   refine .call (hc:=Tryz.call182) (sp:=inBlock (x:=x1) (k:=k) (V0:=V0) (V:=V1) (D:=D1) (op:=true) hbl1 (by omega) hV200) (h:=?_)
   rintro _ _ ⟨rfl,rfl⟩
   rw [hbk]
   simp only [List.cons_append,List.nil_append]
   refine .move ?_
   refine .extract ?_
   refine .extract ?_
   refine .assign (.assign (.z (.seq (.sr (.move ?_)))))
   refine .eqi ?_
   refine .z ?_
   refine .condT rfl rfl ?_
   refine .region (.move ?_)
   refine .nilCheck ?_
   refine .fa ?_ fo266_1
   refine .ld ?_ sc125
   refine .move ?_
   refine .call (hc:=Tryz.call249) (sp:=alGiveBlock (k:=bk) (V0:=V0) (V:=V1) (D:=D1) ho hroom hbd hdg) (h:=?_)
   rintro _ _ ⟨rfl,rfl⟩
   simp only [List.cons_append,List.nil_append]
   refine .assign (.z (.seq (.sr (.move ?_))))
   refine .nei ?_
   refine .z ?_
   refine .condF rfl rfl ?_
   refine .skip (.next (.sr (.move ?_)))
   refine .lss ?_
   refine .z ?_
   refine .condF rfl (congrArg Value.bool (by first|simp;done|simp;omega|omega)) ?_
   refine .skip (.blockNormal (.next (.region (.move ?_))))
   refine .add ?_
   refine .assign (.nil ?_)
   refine .cast (d:=7) (u:=nI (k+1)) rfl (congrArg (Value.int .i64) (by omega)) ?_
   exact .back (k+1,x1,_,_) ⟨by show dat size<=k+1;omega,by show k+1<=dat x.sz;omega,by have hst:=hL.step h ho hSk hbk (.inl ⟨rfl,by omega,by omega⟩) hS hlow;rw [show k - dat size+1=k+1 - dat size from by omega] at hst;exact hst⟩ (by show dat x.sz - (k+1) < dat x.sz - k;omega)
 ·have hge:¬ k < dat x.sz:=by have:=of_decide_eq_false hb;omega
  have hke:k=dat x.sz:=by omega
  subst hke
  have hh1:=has_hs x.sz
  have hh2:=has_hs size
  rcases (show (10 < dat size) ∨ (dat size<=10/\dat x.sz<=10) ∨ (dat size<=10/\10 < dat x.sz) from by omega) with hc | hc | hc
  ·have he:gS (dat size) (dat x.sz) (dat x.sz)=stdS (dat size):=by
    funext l
    rw [Bool.eq_iff_iff,gS_iff,stdS_iff]
    omega
   rw [he] at hL
   have hn:dat x.sz - dat size=has x.sz - has size:=by
    rw [hh1,hh2];unfold hs
    repeat' split
    all_goals omega
   rw [hn] at hL
   refine .exit (.thenExit (.thenExit (.blockExit (?_))))
   refine .next (.seq (.sr (.move ?_)))
   refine .call (hc:=Tryz.call228) (sp:=inData (k:=size) (by omega)) (h:=?_)
   rintro _ _ ⟨rfl,rfl⟩
   refine .leq ?_
   refine .move ?_
   refine .cast (d:=52) (u:=.bool false) rfl (congrArg Value.bool (by first|simp;done|simp;omega|omega)) ?_
   refine .gF ?_
   refine .gF ?_
   refine .gF ?_
   refine .gF ?_
   refine .gF ?_
   refine .gF ?_
   refine .pickF ?_
   refine .z ?_
   refine .condF rfl rfl ?_
   refine .skip (.next (.sr (.assign (.z ?_))))
   refine .ret (?_)
   exact .ret1 (h1:=.tmp (t:=6) rfl) ⟨_,⟨_,_,_,hL,rfl,rfl⟩,Am.auto⟩
  ·have he:gS (dat size) (dat x.sz) (dat x.sz)=stdS (dat size):=by
    funext l
    rw [Bool.eq_iff_iff,gS_iff,stdS_iff]
    omega
   rw [he] at hL
   have hn:dat x.sz - dat size=has x.sz - has size:=by
    rw [hh1,hh2];unfold hs
    repeat' split
    all_goals omega
   rw [hn] at hL
   refine .exit (.thenExit (.thenExit (.blockExit (?_))))
   refine .next (.seq (.sr (.move ?_)))
   refine .call (hc:=Tryz.call228) (sp:=inData (k:=size) (by omega)) (h:=?_)
   rintro _ _ ⟨rfl,rfl⟩
   refine .leq ?_
   refine .move ?_
   refine .cast (d:=52) (u:=.bool true) rfl (congrArg Value.bool (by first|simp;done|simp;omega|omega)) ?_
   refine .gT ?_
   refine .move ?_
   refine .gT ?_
   refine .nilCheck ?_
   refine .gT ?_
   refine .fa ?_ fo228_1
   refine .gT ?_
   refine .ldL (xs:=ndL x1) (i:=1) ?_ sc3 hszg
   refine .gT ?_
   refine .call (hc:=Tryz.call228) (sp:=inData (k:=x.sz) (by omega)) (h:=?_)
   rintro _ _ ⟨rfl,rfl⟩
   refine .gT ?_
   refine .gtr ?_
   refine .pickT ?_
   refine .z ?_
   refine .condF rfl (congrArg Value.bool (by first|simp;done|simp;omega|omega)) ?_
   refine .skip (.next (.sr (.assign (.z ?_))))
   refine .ret (?_)
   exact .ret1 (h1:=.tmp (t:=6) rfl) ⟨_,⟨_,_,_,hL,rfl,rfl⟩,Am.auto⟩
  ·have hSk:gS (dat size) (dat x.sz) (dat x.sz) 200=true:=gS_iff.2 (.inr (.inr ⟨rfl,hc.2⟩))
   have hrk:=hL.inv.rng i x1 _ 200 (updF_same ..) hSk
   obtain ⟨bk,hbk⟩:∃ bk,ptr V1 x1 200=p.da+bk:=⟨ptr V1 x1 200 - p.da,by omega⟩
   have hroom:Room D1:=hL.dk.room (c:=0) (hrm.mono (by have:=hL.wt;omega))
   have hbd:bk < p.dc:=by omega
   have hdg:dig V1 p.bm bk=true:=(hL.inv.map bk hbd).2 ⟨i,x1,_,200,updF_same ..,hSk,hbk⟩
   have hS:∀ l,stdS (dat size) l=true ↔ gS (dat size) (dat x.sz) (dat x.sz) l=true/\l≠200:=fun l=>by rw [gS_iff,stdS_iff];omega
   have hlow:∀ q,q < size->q / 512 < 138/\stdS (dat size) (q / 512)=true:=fun q hq=>by
    have h1:q / 512 < dat size:=by unfold dat;omega
    exact ⟨by omega,stdS_iff.2 (.inl h1)⟩
   have hst:=hL.step h ho hSk hbk (.inr (.inr ⟨rfl,rfl,fun l hl=>by have:=gS_iff.1 hl;omega⟩)) hS hlow
   have hn:dat x.sz - dat size+1=has x.sz - has size:=by
    rw [hh1,hh2];unfold hs
    repeat' split
    all_goals omega
   rw [hn] at hst
   have hb10:x1.bl.getD 10 0=p.da+bk:=by rw [<- hbk,ptr_200]
   refine .exit (.thenExit (.thenExit (.blockExit (?_))))
   refine .next (.seq (.sr (.move ?_)))
   refine .call (hc:=Tryz.call228) (sp:=inData (k:=size) (by omega)) (h:=?_)
   rintro _ _ ⟨rfl,rfl⟩
   refine .leq ?_
   refine .move ?_
   refine .cast (d:=52) (u:=.bool true) rfl (congrArg Value.bool (by first|simp;done|simp;omega|omega)) ?_
   refine .gT ?_
   refine .move ?_
   refine .gT ?_
   refine .nilCheck ?_
   refine .gT ?_
   refine .fa ?_ fo228_1
   refine .gT ?_
   refine .ldL (xs:=ndL x1) (i:=1) ?_ sc3 hszg
   refine .gT ?_
   refine .call (hc:=Tryz.call228) (sp:=inData (k:=x.sz) (by omega)) (h:=?_)
   rintro _ _ ⟨rfl,rfl⟩
   refine .gT ?_
   refine .gtr ?_
   refine .pickT ?_
   refine .z ?_
   refine .condT rfl (congrArg Value.bool (by first|simp;done|simp;omega|omega)) ?_
   refine .sr (.move ?_)
   refine .nilCheck ?_
   refine .fa ?_ fo228_2
   refine .idxA ?_ ar226
   refine .ldL (xs:=ndL x1) (i:=12) (v:=nI (p.da+bk)) ?_ sc3 (by rw [<- hb10];exact ndL_bl (k:=10) (by omega))
   refine .assign (.x (.move ?_))
   refine .nilCheck ?_
   refine .fa ?_ fo228_2
   refine .idxA ?_ ar226
   refine .stL (xs:=ndL x1) (i:=12) ?_ sc3 (by rw [ndL_length hbl1];omega)
   refine .to (A:=row b 228 ((ndL x1).set 12 (nI 0))) (A':=row b 228 (ndL ⟨x1.kd,x1.sz,x1.bl.set 10 0⟩)) (fun h hh=>by rw [show 12=2+10 from rfl,ndL_set] at hh;exact hh) ?_
   refine .x (.move ?_)
   refine .nilCheck ?_
   refine .fa ?_ fo266_1
   refine .ld ?_ sc125
   refine .move ?_
   refine .call (hc:=Tryz.call249) (sp:=alGiveBlock (k:=bk) (V0:=V0) (V:=V1) (D:=D1) ho hroom hbd hdg) (h:=?_)
   rintro _ _ ⟨rfl,rfl⟩
   simp only [List.cons_append,List.nil_append]
   refine .assign (.z ?_)
   refine .ret (.thenRet (?_))
   exact .ret1 (h1:=.tmp (t:=6) rfl) ⟨_,⟨_,_,_,hst,rfl,rfl⟩,Am.auto⟩
theorem Inv.inode {p:Pl} {V V':Nat->Bytes} {nd:NF} (h:Inv p V nd) (ho:PlOk p) {i:Nat} (hi:i < p.ino) (y:Option (Nd×(Nat->Bool))) (hold:∀ x S,nd i=some (x,S)->∀ k,S k=false) (hy:∀ x S,y=some (x,S)->Fits x/\∀ k,S k=false)
  (h5:Len5 V') (hV:∀ v,p.bm<=v->V' v=V v) (hd:∀ j,j < p.ino->dig V' p.im j=if j=i then y.isSome else dig V p.im j):Inv p V' (updF nd i y):=by
 have hlo:=ho.lo
 have get:∀ j z T k,updF nd i y j=some (z,T)->T k=true->nd j=some (z,T)/\ptr V' z k=ptr V z k:=by
  intro j z T k hj hk
  by_cases hji:j=i
  ·subst hji
   rw [updF_same] at hj
   have:=(hy z T hj).2 k
   rw [hk] at this;cases this
  ·rw [updF_other _ _ hji] at hj
   exact ⟨hj,ptrs_congr (h.sok j z T hj) (fun h2=>hV _ (by have:=h.rng j z T 200 hj h2;rw [ptr_200] at this;omega)) hk⟩
 refine ⟨h5,?_,?_,?_,?_,?_,?_,?_⟩
 ·intro j z T hj
  by_cases hji:j=i
  ·subst hji;rw [updF_same] at hj;exact (hy z T hj).1
  ·rw [updF_other _ _ hji] at hj;exact h.fits j z T hj
 ·intro j z T hj
  by_cases hji:j=i
  ·subst hji;rw [updF_same] at hj
   have:=(hy z T hj).2
   exact ⟨fun k hk=>(by rw [this k] at hk;cases hk),fun k hk=>(by rw [this k] at hk;cases hk)⟩
  ·rw [updF_other _ _ hji] at hj;exact h.sok j z T hj
 ·intro j z T hj
  by_cases hji:j=i
  ·subst hji;exact hi
  ·rw [updF_other _ _ hji] at hj;exact h.lt j z T hj
 ·intro j z T k hj hk
  obtain ⟨h1,h2⟩:=get j z T k hj hk
  rw [h2];exact h.rng j z T k h1 hk
 ·intro j z T k j' z' T' k' hj hk hj' hk' he
  obtain ⟨h1,h2⟩:=get j z T k hj hk
  obtain ⟨h1',h2'⟩:=get j' z' T' k' hj' hk'
  rw [h2,h2'] at he
  exact h.inj _ _ _ _ _ _ _ _ h1 hk h1' hk' he
 ·intro k hk
  have e1:dig V' p.bm k=dig V p.bm k:=by unfold dig;rw [hV _ (by omega)]
  rw [e1,h.map k hk]
  constructor
  ·rintro ⟨j,z,T,l,hj,hl,he⟩
   by_cases hji:j=i
   ·subst hji
    have:=hold z T hj l
    rw [hl] at this;cases this
   ·have hj':updF nd i y j=some (z,T):=by rw [updF_other _ _ hji];exact hj
    exact ⟨j,z,T,l,hj',hl,by rw [(get j z T l hj' hl).2];exact he⟩
  ·rintro ⟨j,z,T,l,hj,hl,he⟩
   obtain ⟨h1,h2⟩:=get j z T l hj hl
   exact ⟨j,z,T,l,h1,hl,by rw [<- h2];exact he⟩
 ·intro j hj
  rw [hd j hj]
  by_cases hji:j=i
  ·subst hji;rw [if_pos rfl,updF_same]
  ·rw [if_neg hji,updF_other _ _ hji];exact h.imap j hj
theorem stdS_zero (k:Nat):stdS 0 k=false:=by unfold stdS;simp
theorem repNd {p:Pl} {V:Nat->Bytes} {F:FM} {i:Nat} {f:Nat×Bytes} (hi:F i=some f):ndOf p V F i=some (ldN p V i,stdS (dat f.2.length)):=by unfold ndOf;rw [hi];rfl
theorem Rep.ndX {p:Pl} {V:Nat->Bytes} {F:FM} (h:Rep p V F) {i:Nat} {f:Nat×Bytes} (hi:F i=some f):ndOf p V F i=some (ldN p V i,stdS (dat (ldN p V i).sz)):=by rw [(h.ok i f hi).sz];exact repNd hi
theorem Rep.digI {p:Pl} {V:Nat->Bytes} {F:FM} (h:Rep p V F) {i:Nat} {f:Nat×Bytes} (hi:F i=some f):i=0 ∨ Go.Proofs.YtdmjkjeoamiedaaGreatDoor.dig V p.im i=true:=by
 refine .inr ?_
 rw [h.inv.imap i (h.lt hi),repNd hi];rfl
def fileAt (F:FM) (i:Int):Option (Nat×Bytes):=if 0<=i then F i.toNat else none
theorem fileAt_nat (F:FM) (i:Nat):fileAt F (i:Int)=F i:=by unfold fileAt;rw [if_pos (by omega),Int.toNat_natCast]
theorem Rep.nope {p:Pl} {V:Nat->Bytes} {F:FM} (h:Rep p V F) {i:Int} (hi:fileAt F i=none):¬ (0<=i/\i < p.ino/\(i=0 ∨ Go.Proofs.YtdmjkjeoamiedaaGreatDoor.dig V p.im i.toNat=true)):=by
 rintro ⟨h1,h2,h3⟩
 unfold fileAt at hi
 rw [if_pos h1] at hi
 have h4:=h.inv.imap i.toNat (by omega)
 have h5:ndOf p V F i.toNat=none:=by unfold ndOf;rw [hi];rfl
 rw [h5] at h4
 rcases h3 with h3 | h3
 ·subst h3
  have:=h.root
  rw [show (0:Int).toNat=0 from rfl] at hi
  rw [hi] at this;cases this
 ·rw [h4] at h3;cases h3
theorem kp_others {p:Pl} {V V':Nat->Bytes} {F:FM} (h:Rep p V F) (ho:PlOk p) {i:Nat} (hk:Kp p V V' (ndOf p V F) i):∀ j g,j≠i->F j=some g->ldN p V' j=ldN p V j/\∀ k,stdS (dat g.2.length) k=true->V' (ptr V (ldN p V j) k)=V (ptr V (ldN p V j) k) :=
 fun j g hji hj=>⟨hk.ldN ho.tab (h.lt hj),fun k hk'=>hk.oth j _ _ k hji (repNd hj) hk'⟩
theorem Rep.cntle {p:Pl} {V:Nat->Bytes} {F:FM} (h:Rep p V F):tot F p.ino<=p.dc:=by rw [<- h.cn];exact cnt_le _ _ _
def ext (old:Bytes) (n:Nat):Bytes:=old++List.replicate (n - old.length) 0
theorem ext_length (old:Bytes) (n:Nat):(ext old n).length=max old.length n:=by unfold ext;rw [List.length_append,List.length_replicate];omega
theorem ext_getD (old:Bytes) (n q:Nat):(ext old n).getD q 0=old.getD q 0:=by
 unfold ext
 simp only [List.getD_eq_getElem?_getD,List.getElem?_append,List.getElem?_replicate]
 by_cases h:q < old.length
 ·rw [if_pos h]
 ·rw [if_neg h,List.getElem?_eq_none (by omega)]
  split<;>rfl
theorem ext_self {old:Bytes} {n:Nat} (h:n<=old.length):ext old n=old:=by unfold ext;rw [show n - old.length=0 from by omega];simp
def wrB (old:Bytes) (at':Nat) (bs:Bytes):Bytes:=splice (ext old (at'+bs.length)) at' bs
theorem wrB_length (old:Bytes) (at':Nat) (bs:Bytes):(wrB old at' bs).length=max old.length (at'+bs.length):=by
 unfold wrB
 rw [splice_length (by rw [ext_length];omega),ext_length]
theorem wrB_getD (old:Bytes) (at':Nat) (bs:Bytes) (q:Nat):(wrB old at' bs).getD q 0=if at'<=q/\q < at'+bs.length then bs.getD (q - at') 0 else old.getD q 0:=by
 unfold wrB
 rw [splice_getD (by rw [ext_length];omega),ext_getD]
def trB (old:Bytes) (n:Nat):Bytes:=ext (old.take n) n
theorem trB_length (old:Bytes) (n:Nat):(trB old n).length=n:=by unfold trB;rw [ext_length,List.length_take];omega
theorem trB_getD (old:Bytes) (n q:Nat) (h:q < n):(trB old n).getD q 0=old.getD q 0:=by
 unfold trB
 rw [ext_getD,List.getD_eq_getElem?_getD,List.getElem?_take,if_pos h,List.getD_eq_getElem?_getD]
theorem FM_twice (F:FM) (i:Nat) (y z:Option (Nat×Bytes)):updM (updM F i y) i z=updM F i z:=by
 funext j
 unfold updM
 split<;>rfl
theorem Rep.wrote {p:Pl} {V V':Nat->Bytes} {F:FM} (h:Rep p V F) (ho:PlOk p) {i at':Nat} {f:Nat×Bytes} {bs:Bytes} (hi:F i=some f) (hl:at'+bs.length<=f.2.length) (hy:LayR p V V' (ldN p V i) at' (at'+bs.length) bs) :
  Rep p V' (updM F i (some (f.1,wrB f.2 at' bs))):=by
 have hf:=h.ok i f hi
 have hd:=dat_le hf.big
 have hwl:(wrB f.2 at' bs).length=f.2.length:=by rw [wrB_length];omega
 obtain ⟨h1,h2,h3,h4,h5⟩:=hy.stp h.inv ho (repNd hi) (by omega) (fun k k1 k2=>⟨stdS_iff.2 (.inl (by unfold dat;omega)),by unfold dat at hd;omega⟩)
 refine h.laid ho hi hwl h1 h2 h3 fun q hq=>?_
 rw [hwl] at hq
 have hq1:q / 512 < dat f.2.length:=by unfold dat;omega
 rw [h5 q (by omega) (stdS_iff.2 (.inl hq1)),wrB_getD]
 split
 ·rfl
 ·exact hf.byt q hq
theorem Rep.grown {p:Pl} {V V':Nat->Bytes} {F:FM} (h:Rep p V F) (ho:PlOk p) {i size:Nat} {f:Nat×Bytes} {x:Nd} {D D':List Nat} (hi:F i=some f) (hs1:f.2.length<=size) (hs2:size<=70656) (hg:GrowP p V V' (ndOf p V F) i (ldN p V i) x D D' size) :
  Rep p (svV p V' i x) (updM F i (some (f.1,ext f.2 size))):=by
 have hf:=h.ok i f hi
 have hel:(ext f.2 size).length=size:=by rw [ext_length];omega
 refine h.save ho (f:=(f.1,ext f.2 size)) (h.lt hi) (.inl (by rw [hi];simp)) (by show Inv p V' (updF _ i (some (x,stdS (dat (ext f.2 size).length))));rw [hel];exact hg.inv) (kp_others h ho hg.kp) ?_ ?_
 ·refine ⟨hg.kd.trans hf.kd,hf.k12,by show x.sz=(ext f.2 size).length;rw [hel];exact hg.sz,by show (ext f.2 size).length<=70656;omega,fun q hq=>?_⟩
  have hq':q < size:=by rw [<- hel];exact hq
  show fb V' x q=(ext f.2 size).getD q 0
  rw [hg.byt q hq',ext_getD,hf.sz]
  split
  ·rename_i hlt;exact hf.byt q hlt
  ·rename_i hge;rw [List.getD_eq_getElem?_getD,List.getElem?_eq_none (by omega)];rfl
 ·have:=hg.cn
  rw [hf.sz] at this
  rw [hi]
  show cnt V' p.bm p.dc+has f.2.length=cnt V p.bm p.dc+has (ext f.2 size).length
  rw [hel];exact this
theorem Rep.shrunk {p:Pl} {V V':Nat->Bytes} {F:FM} (h:Rep p V F) (ho:PlOk p) {i size:Nat} {f:Nat×Bytes} {x:Nd} {D D':List Nat} (hi:F i=some f) (hs1:size<=f.2.length) (hg:GiL p V V' (ndOf p V F) i (ldN p V i) x D D' size (has f.2.length - has size) (stdS (dat size))) :
  Rep p (svV p V' i ⟨x.kd,size,x.bl⟩) (updM F i (some (f.1,trB f.2 size))):=by
 have hf:=h.ok i f hi
 have hbig:=hf.big
 have hel:=trB_length f.2 size
 have hfx:=hg.inv.fits i x _ (updF_same ..)
 have hm:=hs_mono (dat_mono hs1)
 refine h.save ho (f:=(f.1,trB f.2 size)) (h.lt hi) (.inl (by rw [hi];simp)) ?_ (kp_others h ho hg.kp) ?_ ?_
 ·refine hg.inv.same hg.inv.len (fun _ _=>rfl) (fun _ _=>rfl) fun j=>?_
  by_cases hj:j=i
  ·subst hj
   refine .inr ⟨x,⟨x.kd,size,x.bl⟩,stdS (dat size),updF_same ..,by rw [updF_same];show some (_,stdS (dat (trB f.2 size).length))=_;rw [hel],⟨hfx.bl,fun v hv=>?_⟩,fun _ _=>rfl⟩
   simp only [Nd.nums,List.mem_cons] at hv
   rcases hv with rfl | rfl | hv
   ·exact hfx.lt _ (by simp [Nd.nums])
   ·omega
   ·exact hfx.lt _ (by simp [Nd.nums,hv])
  ·rw [updF_other _ _ hj,updF_other _ _ hj]
   cases hn:ndOf p V F j with
   | none=>exact .inl ⟨rfl,rfl⟩
   | some y =>
    obtain ⟨y,T⟩:=y
    exact .inr ⟨y,y,T,rfl,rfl,hg.inv.fits j y T (by rw [updF_other _ _ hj];exact hn),fun _ _=>rfl⟩
 ·refine ⟨hg.kd.trans hf.kd,hf.k12,hel.symm,by show (trB f.2 size).length<=70656;omega,fun q hq=>?_⟩
  have hq':q < size:=by rw [<- hel];exact hq
  show fb V' x q=(trB f.2 size).getD q 0
  rw [hg.old q hq',trB_getD _ _ _ hq']
  exact hf.byt q (by omega)
 ·rw [hi]
  show cnt V' p.bm p.dc+has f.2.length=cnt V p.bm p.dc+has (trB f.2 size).length
  rw [hel]
  have:=hg.cn
  have e1:=has_hs size
  have e2:=has_hs f.2.length
  omega
theorem cnt_imap {p:Pl} {V:Nat->Bytes} (ho:PlOk p) {i:Nat} (hi:i < p.ino) (on:Bool):cnt (setD V p.im i on) p.bm p.dc=cnt V p.bm p.dc:=by
 have h1:=ho.apart
 have h2:=ho.i2
 exact cnt_same fun k hk=>dig_setD_other _ _ _ _ _ (by omega)
theorem imap_other {p:Pl} {V:Nat->Bytes} (ho:PlOk p) {i:Nat} (hi:i < p.ino) (on:Bool) {v:Nat} (hv:p.bm<=v):setD V p.im i on v=V v:=by
 have h1:=ho.apart
 have h2:=ho.i2
 exact wr_other _ _ (by omega)
theorem Rep.made {p:Pl} {V:Nat->Bytes} {F:FM} (h:Rep p V F) (ho:PlOk p) {i k:Nat} (hi:i < p.ino) (hd:Go.Proofs.YtdmjkjeoamiedaaGreatDoor.dig V p.im i=false) (hk:k=1 ∨ k=2):Rep p (svV p (setD V p.im i true) i ⟨k,0,List.replicate 11 0⟩) (updM F i (some (k,[]))):=by
 have hlo:=ho.lo
 have htd:=ho.tbda
 have hn:ndOf p V F i=none:=by
  have:=h.inv.imap i hi
  rw [hd] at this
  cases hh:ndOf p V F i with
  | none=>rfl
  | some y=>rw [hh] at this;cases this
 have hF:F i=none:=by
  unfold ndOf at hn
  cases hh:F i with
  | none=>rfl
  | some y=>rw [hh] at hn;cases hn
 have hi0:i≠0:=fun hh=>by
  subst hh
  have:=h.root
  rw [hF] at this;cases this
 have hfx:Fits ⟨k,0,List.replicate 11 0⟩:=kFits (by omega)
 have hinv:Inv p (setD V p.im i true) (updF (ndOf p V F) i (some (⟨k,0,List.replicate 11 0⟩,stdS (dat ([]:Bytes).length)))):=by
  refine h.inv.inode ho hi _ (fun x S hx=>by rw [hn] at hx;cases hx) (fun x S hx=>by cases hx;exact ⟨hfx,fun k=>stdS_zero k⟩) (setD_len h.inv.len _ _ _) (fun v hv=>imap_other ho hi true hv) (fun j hj=>?_)
  rw [dig_setD h.inv.len];rfl
 refine h.save ho (f:=(k,[])) hi (.inr hi0) hinv (fun j g hji hj=>⟨?_,fun l hl=>?_⟩) ⟨rfl,hk,rfl,Nat.zero_le _,fun q hq=>by cases hq⟩ ?_
 ·unfold ldN
  rw [imap_other ho hi true (by omega)]
 ·have:=h.inv.rng j _ _ l (repNd hj) hl
  exact imap_other ho hi true (by omega)
 ·rw [hF,cnt_imap ho hi]
  show cnt V p.bm p.dc+0=cnt V p.bm p.dc+has 0
  rfl
theorem Rep.dropped {p:Pl} {V V':Nat->Bytes} {F:FM} (h:Rep p V F) (ho:PlOk p) {i:Nat} {f:Nat×Bytes} {x:Nd} {D D':List Nat} (hi:F i=some f) (hi0:i≠0) (hg:GiL p V V' (ndOf p V F) i (ldN p V i) x D D' 0 (has f.2.length - has 0) (stdS (dat 0))) :
  Rep p (setD V' p.im i false) (updM F i none)/\Go.Proofs.YtdmjkjeoamiedaaGreatDoor.dig V' p.im i=true:=by
 have hlo:=ho.lo
 have htd:=ho.tbda
 have htab:=ho.tab
 have hlt:=h.lt hi
 have hinv:=hg.inv.inode ho hlt none (fun y S hy=>by rw [updF_same] at hy;cases hy;exact fun k=>stdS_zero k) (fun x S hx=>by cases hx) (V':=setD V' p.im i false) (setD_len hg.inv.len _ _ _) (fun v hv=>imap_other ho hlt false hv) (fun j hj=>by rw [dig_setD hg.inv.len];rfl)
 rw [updF_updF] at hinv
 have hV:∀ v,p.bm<=v->setD V' p.im i false v=V' v:=fun v hv=>imap_other ho hlt false hv
 have hoth:=kp_others h ho hg.kp
 have hnd:∀ j,ndOf p (setD V' p.im i false) (updM F i none) j=updF (ndOf p V F) i none j:=by
  intro j
  by_cases hj:j=i
  ·subst hj;rw [updF_same];unfold ndOf;rw [updM_same];rfl
  ·rw [updF_other _ _ hj]
   unfold ndOf
   rw [updM_other _ _ hj]
   cases hF:F j with
   | none=>rfl
   | some g =>
    have:=(hoth j g hj hF).1
    show some (_,_)=some (_,_)
    rw [<- this]
    unfold ldN
    rw [hV _ (by omega)]
 refine ⟨⟨?_,?_,?_,?_⟩,?_⟩
 ·refine hinv.same hinv.len (fun _ _=>rfl) (fun _ _=>rfl) fun j=>?_
  rw [hnd j]
  cases hj:updF (ndOf p V F) i none j with
  | none=>exact .inl ⟨rfl,rfl⟩
  | some y =>
   obtain ⟨y,T⟩:=y
   exact .inr ⟨y,y,T,rfl,rfl,hinv.fits _ _ _ hj,fun _ _=>rfl⟩
 ·intro j g hj
  by_cases hji:j=i
  ·subst hji;rw [updM_same] at hj;cases hj
  ·rw [updM_other _ _ hji] at hj
   have hj':=h.ok j g hj
   obtain ⟨h1,h2⟩:=hoth j g hji hj
   have hld:ldN p (setD V' p.im i false) j=ldN p V j:=by rw [<- h1];unfold ldN;rw [hV _ (by omega)]
   rw [hld]
   refine ⟨hj'.kd,hj'.k12,hj'.sz,hj'.big,fun q hq=>?_⟩
   rw [<- hj'.byt q hq]
   have hS:stdS (dat g.2.length) (q / 512)=true:=stdS_iff.2 (.inl (by unfold dat;omega))
   have hr1:=fun k hk'=>h.inv.rng j (ldN p V j) (stdS (dat g.2.length)) k (repNd hj) hk'
   have hp:ptr (setD V' p.im i false) (ldN p V j) (q / 512)=ptr V (ldN p V j) (q / 512):=ptrs_congr (stdS_ok (dat_le hj'.big)) (fun h3=>by
    have h4:=h2 200 h3
    have h5:=hr1 200 h3
    rw [ptr_200] at h4 h5
    rw [hV _ (by omega),h4]) hS
   have h6:=hr1 _ hS
   exact fb_congr hp (by rw [hV _ (by omega)];exact h2 _ hS)
 ·rw [cnt_imap ho hlt]
  have h2:=tot_upd' F hlt none
  rw [hi] at h2
  have h3:tot (updM F i none) p.ino+has f.2.length=tot F p.ino:=h2
  have h4:=hg.cn
  have h5:=h.cn
  have h6:has 0=0:=rfl
  omega
 ·rw [updM_other _ _ (Ne.symm hi0)];exact h.root
 ·have h1:=hg.inv.imap i hlt
  rw [updF_same] at h1
  exact h1
theorem Rep.mono {p:Pl} {V V':Nat->Bytes} {F:FM} (h:Rep p V F) (ho:PlOk p) (h5:Len5 V') (hV:∀ v,p.im<=v->V' v=V v):Rep p V' F:=by
 have hlo:=ho.lo
 have hap:=ho.apart
 have htbl:=ho.tbl
 have htab:=ho.tab
 have hb:∀ k,k < p.dc->dig V' p.bm k=dig V p.bm k:=fun k _=>by unfold dig;rw [hV _ (by omega)]
 have hi:∀ k,k < p.ino->dig V' p.im k=dig V p.im k:=fun k _=>by unfold dig;rw [hV _ (by omega)]
 have hl:∀ j,ldN p V' j=ldN p V j:=fun j=>by unfold ldN;rw [hV _ (by omega)]
 have hpt:∀ j f,F j=some f->∀ k,stdS (dat f.2.length) k=true->ptr V' (ldN p V j) k=ptr V (ldN p V j) k:=fun j f hj k hk =>
  ptrs_congr (stdS_ok (dat_le (h.ok j f hj).big)) (fun h2=>hV _ (by have:=h.inv.rng j _ _ 200 (repNd hj) h2;rw [ptr_200] at this;omega)) hk
 refine ⟨h.inv.same h5 hb hi fun j=>?_,fun i f hf=>?_,?_,h.root⟩
 ·cases hj:F j with
  | none=>exact .inl ⟨by unfold ndOf;rw [hj];rfl,by unfold ndOf;rw [hj];rfl⟩
  | some f =>
   refine .inr ⟨ldN p V j,ldN p V j,stdS (dat f.2.length),repNd hj,by rw [repNd hj,hl],h.inv.fits j _ _ (repNd hj),hpt j f hj⟩
 ·have h1:=h.ok i f hf
  rw [hl]
  refine ⟨h1.kd,h1.k12,h1.sz,h1.big,fun q hq=>?_⟩
  rw [<- h1.byt q hq]
  have hS:stdS (dat f.2.length) (q / 512)=true:=stdS_iff.2 (.inl (by unfold dat;omega))
  exact fb_congr (hpt i f hf _ hS) (hV _ (by have:=h.inv.rng i _ _ _ (repNd hf) hS;omega))
 ·rw [cnt_same hb];exact h.cn
theorem cm0_len {V:Nat->Bytes} (h:Len5 V):Len5 (cm0 V):=fun k=>by
 unfold cm0
 split
 ·exact zeros_length
 ·exact h k
theorem Rep.cm {p:Pl} {V:Nat->Bytes} {F:FM} (h:Rep p V F) (ho:PlOk p):Rep p (cm0 V) F:=h.mono ho (cm0_len h.inv.len) (fun v hv=>cm0_home V (by have:=ho.aI.lo;omega))
theorem inChg {s c a:Nat} {p:Pl} {V0 V:Nat->Bytes} {D:List Nat} {i:Nat} (ho:PlOk p) (hi:i < p.ino) (hd:i=0 ∨ dig V p.im i=true):Spec Tryz.prog 147 #[.pointer (some ⟨s,0,none⟩),nI i] [pt s (stO c a p),pt a (alO c p),TR c p.n V0 V D true] fun F v M=>v=.tuple #[ndV (ldN p V i),.int .i64 0]/\M=[pt s (stO c a p),pt a (alO c p),TR c p.n V0 V D true]++F:=by
 refine Spec.intro Tryz.func147 rfl rfl fun B F=>?_
 simp only [Tryz.ntmps147,List.cons_append,List.nil_append,env0,Nat.reduceAdd]
 refine .sr ?_
 refine .allocL zNd rfl fun b4=>?_
 refine .assign (.z (.seq (.sr (.move ?_))))
 refine .call (hc:=Tryz.call210) (sp:=inReady (n:=p.n) (V0:=V0) (V:=V) (D:=D) (op:=true)) (h:=?_)
 rintro _ _ ⟨rfl,rfl⟩
 simp only [List.cons_append,List.nil_append]
 refine .not ?_
 refine .z ?_
 refine .condF rfl rfl ?_
 refine .skip (.next (.sr (.move (.move ?_))))
 refine .call (hc:=Tryz.call181) (sp:=inLoad (i:=i) (V0:=V0) (V:=V) (D:=D) (op:=true) ho hi hd) (h:=?_)
 rintro _ _ ⟨rfl,rfl⟩
 simp only [List.cons_append,List.nil_append]
 refine .extract ?_
 refine .extract ?_
 refine .stLA (xs:=ndL nd0) (us:=ndL (ldN p V i)) ?_ agg228 (ndL_length (ldB_fits _ _).bl) rfl (ndL_single _)
 refine .assign (.z ?_)
 refine .ret (?_)
 exact .ret2 (h1:=RV.aggL rfl agg228 (by repeat (first | exact .here | apply Rem.there | apply Repl.there | apply Mem.there)) (ndL_length (ldB_fits _ _).bl)) (h2:=.tmp rfl) ⟨_,⟨rfl,rfl⟩,Am.auto⟩
theorem inWrite {s c a:Nat} {p:Pl} {V0 V:Nat->Bytes} {D:List Nat} {F0:FM} {i at' m cc:Nat} {f:Nat×Bytes} {R:HP} {A:Option Addr} {bs:Bytes} (h:Rep p V F0) (ho:PlOk p) (hi:F0 i=some f) (hdk:Dk p D) (hrm:Rm p D (has (max f.2.length (at'+m)) - has f.2.length+(m+511) / 512+10)) (hR:bs=[] ∨ Reads R A (bvs bs)) (hm:bs.length=m) (hcc:m<=cc) (hcb:cc<=maxLen) (hat:at'<=f.2.length) (hbg:at'+m<=70656) :
  Spec Tryz.prog 71 #[.pointer (some ⟨s,0,none⟩),nI i,nI at',.slice A m cc] [R,pt s (stO c a p),pt a (alO c p),TR c p.n V0 V D true] fun F v M =>
   (p.dc+has f.2.length < tot F0 p.ino+has (max f.2.length (at'+m))/\v=.int .i64 3/\M=[R,pt s (stO c a p),pt a (alO c p),TR c p.n V0 V D true]++F) ∨
   (tot F0 p.ino+has (max f.2.length (at'+m))<=p.dc+has f.2.length/\∃ V' D',Rep p V' (updM F0 i (some (f.1,wrB f.2 at' bs)))/\(Dk p D'/\wt p D'<=wt p D+(has (max f.2.length (at'+m)) - has f.2.length)+(m+511) / 512+5)/\v=okV/\M=[R,pt s (stO c a p),pt a (alO c p),TR c p.n V0 V' D' true]++F):=by
 refine Spec.intro Tryz.func71 rfl rfl fun B F=>?_
 simp only [Tryz.ntmps71,List.cons_append,List.nil_append,env0,Nat.reduceAdd]
 have hf:=h.ok i f hi
 have hsz:=hf.sz
 have hbig:=hf.big
 have hlt:=h.lt hi
 have hi2:=ho.i2
 have hlo:=ho.lo
 have htab:=ho.tab
 have hnd:=repNd (p:=p) (V:=V) hi
 have hfx:=h.inv.fits i _ _ hnd
 have hbl:=hfx.bl
 have hnl:=ndL_length hbl
 have hcl:=h.cntle
 have hszg:(ndL (ldN p V i))[1]?=some (nI f.2.length):=by rw [<- hsz];rfl
 by_cases hgr:f.2.length < at'+m
 ·have hmx:max f.2.length (at'+m)=at'+m:=by omega
  rw [hmx] at hrm ⊢
  have hndx:=h.ndX hi
  refine .sr (.assign (.x (.move (.move ?_))))
  refine .call (hc:=Tryz.call147) (sp:=inChg (i:=i) (V0:=V0) (V:=V) (D:=D) ho (h.lt hi) (h.digI hi)) (h:=?_)
  rintro _ _ ⟨rfl,rfl⟩
  simp only [List.cons_append,List.nil_append]
  refine .move ?_
  refine .extract ?_
  refine .extract ?_
  refine .allocL zNd rfl fun b9=>?_
  refine .stLA (xs:=ndL nd0) (us:=ndL (ldN p V i)) ?_ agg228 hnl rfl (ndL_single _)
  refine .assign (.z (.seq (.block (.sr (.move ?_)))))
  refine .nei ?_
  refine .assign (.z ?_)
  refine .condF rfl rfl ?_
  refine .sr (.move ?_)
  refine .lss ?_
  refine .move ?_
  refine .cast (d:=26) (u:=.bool false) rfl (congrArg Value.bool (by first|simp;done|simp;omega|unfold nI;simp;omega|omega)) ?_
  refine .gT ?_
  refine .move ?_
  refine .gT ?_
  refine .fa ?_ fo228_1
  refine .gT ?_
  refine .ldL (xs:=ndL (ldN p V i)) (i:=1) ?_ sc3 hszg
  refine .gT ?_
  refine .gtr ?_
  refine .pickF ?_
  refine .assign (.z ?_)
  refine .condF rfl (congrArg Value.bool (by first|simp;done|simp;omega|unfold nI;simp;omega|omega)) ?_
  refine .sr (.move ?_)
  refine .lenS ?_ sl33
  refine .move ?_
  refine .sub ?_
  refine .gtr ?_
  refine .assign (.z ?_)
  refine .condF rfl (congrArg Value.bool (by first|simp;done|simp;omega|unfold nI;simp;omega|omega)) ?_
  refine .skip (.blockNormal (.next (.seq (.sr (.move (.move ?_))))))
  refine .lenS ?_ sl33
  refine .add ?_
  refine .fa ?_ fo228_1
  refine .ldL (xs:=ndL (ldN p V i)) (i:=1) ?_ sc3 hszg
  refine .gtr ?_
  refine .z ?_
  refine .condT rfl (congrArg Value.bool (by first|simp;done|simp;omega|unfold nI;simp;omega|omega)) ?_
  refine .seq (.sr (.move (.move (.move ?_))))
  refine .lenS ?_ sl33
  refine .add ?_
  refine .cast (d:=49) (u:=nI (at'+m)) rfl (congrArg (Value.int .i64) (by omega)) ?_
  refine .call (hc:=Tryz.call148) (sp:=inGrow (i:=i) (b:=b9) (size:=at'+m) (x:=ldN p V i) (V0:=V0) (V:=V) (D:=D) h.inv ho hndx hdk (by rw [hsz];omega) (by omega) (hrm.mono (by rw [hsz];omega))) (h:=?_)
  rintro _ _ (⟨hfull,rfl,rfl⟩ | ⟨hle,x1,V1,D1,hG,rfl,rfl⟩)<;>simp only [List.cons_append,List.nil_append]
  ·rw [h.cn,hsz] at hfull
   refine .assign (.x (.move ?_))
   refine .nei ?_
   refine .z ?_
   refine .condT rfl rfl ?_
   refine .sr (.move (.assign (.z ?_)))
   refine .ret (.thenRet (.thenRet (?_)))
   exact .ret1 (h1:=.tmp (t:=8) rfl) ⟨_,.inl ⟨hfull,rfl,rfl⟩,Am.auto⟩
  ·rw [h.cn,hsz] at hle
   have hfx1:=hG.inv.fits i x1 _ (updF_same ..)
   have hbl1:=hfx1.bl
   have hwg:=hG.wt
   rw [hsz] at hwg
   have hhm:has f.2.length<=has (at'+m):=by rw [has_hs,has_hs];exact hs_mono (dat_mono (by omega))
   have hrep:=h.grown ho hi (by omega) (by omega) hG
   have hsd:=inD_ok (p:=p) hG.dk (v:=p.tb+i / 8) (by omega) (by omega)
   have hld2:ldN p (svV p V1 i x1) i=x1:=ldN_svV hG.inv.len hfx1
   have hel:(ext f.2 (at'+m)).length=at'+m:=by rw [ext_length];omega
   have hnd2:=repNd (p:=p) (V:=svV p V1 i x1) (updM_same F0 i (some (f.1,ext f.2 (at'+m))))
   rw [hld2] at hnd2
   simp only [hel] at hnd2
   refine .assign (.x (.move ?_))
   refine .nei ?_
   refine .z ?_
   refine .condF rfl rfl ?_
   refine .skip (.next (.sr (.move (.move ?_))))
   refine .ldW (xs:=ndL x1) ?_ agg228 (ndL_length hbl1)
   refine .call (hc:=Tryz.call149) (sp:=inSave (i:=i) (x:=x1) (V0:=V0) (V:=V1) (D:=D1) ho hlt hfx1 (hG.dk.room (c:=0) (hrm.mono (by omega)))) (h:=?_)
   rintro _ _ ⟨rfl,rfl⟩
   simp only [List.cons_append,List.nil_append]
   refine .assign (.x (.move ?_))
   refine .nei ?_
   refine .z ?_
   refine .condF rfl rfl ?_
   refine .skip (.next (.sr (.move ?_)))
   refine .ldW (xs:=ndL x1) ?_ agg228 (ndL_length hbl1)
   refine .move (.move ?_)
   refine .call (hc:=Tryz.call150) (sp:=inLay (x:=x1) (at':=at') (bs:=bs) (R:=R) (V0:=V0) (V:=svV p V1 i x1) (D:=insD D1 (p.tb+i / 8)) hrep.inv ho hnd2 hsd.1 (hrm.mono (by rw [hm];omega)) hR hm hcc hcb (fun k k1 k2=>⟨stdS_iff.2 (.inl (by unfold dat;omega)),by omega⟩) (by omega) (by omega)) (h:=?_)
   rintro _ _ ⟨V2,D2,hlay,⟨hdk2,hw2⟩,rfl,rfl⟩
   simp only [List.cons_append,List.nil_append]
   refine .assign (.z ?_)
   refine .ret (?_)
   rw [<- hm] at hlay hel
   have hfin:=hrep.wrote ho (at':=at') (bs:=bs) (updM_same ..) (by show at'+bs.length<=(ext f.2 (at'+m)).length;rw [<- hm];omega) (by rw [hld2];exact hlay)
   rw [FM_twice] at hfin
   have hwe:wrB (ext f.2 (at'+m)) at' bs=wrB f.2 at' bs:=by
    unfold wrB
    rw [<- hm,ext_self (old:=ext f.2 (at'+bs.length)) (by omega)]
   simp only [hwe] at hfin
   exact .ret1 (h1:=.tmp (t:=8) rfl) ⟨_,.inr ⟨hle,_,_,hfin,⟨hdk2,by omega⟩,rfl,rfl⟩,Am.auto⟩
 ·have hmx:max f.2.length (at'+m)=f.2.length:=by omega
  rw [hmx] at hrm ⊢
  refine .sr (.assign (.x (.move (.move ?_))))
  refine .call (hc:=Tryz.call147) (sp:=inChg (i:=i) (V0:=V0) (V:=V) (D:=D) ho (h.lt hi) (h.digI hi)) (h:=?_)
  rintro _ _ ⟨rfl,rfl⟩
  simp only [List.cons_append,List.nil_append]
  refine .move ?_
  refine .extract ?_
  refine .extract ?_
  refine .allocL zNd rfl fun b9=>?_
  refine .stLA (xs:=ndL nd0) (us:=ndL (ldN p V i)) ?_ agg228 hnl rfl (ndL_single _)
  refine .assign (.z (.seq (.block (.sr (.move ?_)))))
  refine .nei ?_
  refine .assign (.z ?_)
  refine .condF rfl rfl ?_
  refine .sr (.move ?_)
  refine .lss ?_
  refine .move ?_
  refine .cast (d:=26) (u:=.bool false) rfl (congrArg Value.bool (by first|simp;done|simp;omega|unfold nI;simp;omega|omega)) ?_
  refine .gT ?_
  refine .move ?_
  refine .gT ?_
  refine .fa ?_ fo228_1
  refine .gT ?_
  refine .ldL (xs:=ndL (ldN p V i)) (i:=1) ?_ sc3 hszg
  refine .gT ?_
  refine .gtr ?_
  refine .pickF ?_
  refine .assign (.z ?_)
  refine .condF rfl (congrArg Value.bool (by first|simp;done|simp;omega|unfold nI;simp;omega|omega)) ?_
  refine .sr (.move ?_)
  refine .lenS ?_ sl33
  refine .move ?_
  refine .sub ?_
  refine .gtr ?_
  refine .assign (.z ?_)
  refine .condF rfl (congrArg Value.bool (by first|simp;done|simp;omega|unfold nI;simp;omega|omega)) ?_
  refine .skip (.blockNormal (.next (.seq (.sr (.move (.move ?_))))))
  refine .lenS ?_ sl33
  refine .add ?_
  refine .fa ?_ fo228_1
  refine .ldL (xs:=ndL (ldN p V i)) (i:=1) ?_ sc3 hszg
  refine .gtr ?_
  refine .z ?_
  refine .condF rfl (congrArg Value.bool (by first|simp;done|simp;omega|unfold nI;simp;omega|omega)) ?_
  refine .skip (.next (.sr (.move ?_)))
  refine .ldW (xs:=ndL (ldN p V i)) ?_ agg228 hnl
  refine .move (.move ?_)
  refine .call (hc:=Tryz.call150) (sp:=inLay (x:=ldN p V i) (at':=at') (bs:=bs) (R:=R) (V0:=V0) (V:=V) (D:=D) h.inv ho hnd hdk (hrm.mono (by rw [hm];omega)) hR hm hcc hcb (fun k k1 k2=>⟨stdS_iff.2 (.inl (by unfold dat;omega)),by omega⟩) (by omega) (by omega)) (h:=?_)
  rintro _ _ ⟨V2,D2,hlay,⟨hdk2,hw2⟩,rfl,rfl⟩
  simp only [List.cons_append,List.nil_append]
  refine .assign (.z ?_)
  refine .ret (?_)
  rw [<- hm] at hlay
  have hfin:=h.wrote ho hi (by omega) hlay
  exact .ret1 (h1:=.tmp (t:=8) rfl) ⟨_,.inr ⟨by omega,_,_,hfin,⟨hdk2,by omega⟩,rfl,rfl⟩,Am.auto⟩
theorem inTrunc {s c a:Nat} {p:Pl} {V0 V:Nat->Bytes} {D:List Nat} {F0:FM} {i size:Nat} {f:Nat×Bytes} (h:Rep p V F0) (ho:PlOk p) (hi:F0 i=some f) (hdk:Dk p D) (hrm:Rm p D (has size - has f.2.length+8)) (hbg:size<=70656) :
  Spec Tryz.prog 126 #[.pointer (some ⟨s,0,none⟩),nI i,nI size] [pt s (stO c a p),pt a (alO c p),TR c p.n V0 V D true] fun F v M =>
   (p.dc+has f.2.length < tot F0 p.ino+has size/\v=.int .i64 3/\M=[pt s (stO c a p),pt a (alO c p),TR c p.n V0 V D true]++F) ∨
   (tot F0 p.ino+has size<=p.dc+has f.2.length/\∃ V' D',Rep p V' (updM F0 i (some (f.1,trB f.2 size)))/\(Dk p D'/\wt p D'<=wt p D+(has size - has f.2.length)+4)/\v=okV/\M=[pt s (stO c a p),pt a (alO c p),TR c p.n V0 V' D' true]++F):=by
 refine Spec.intro Tryz.func126 rfl rfl fun B F=>?_
 simp only [Tryz.ntmps126,List.cons_append,List.nil_append,env0,Nat.reduceAdd]
 have hf:=h.ok i f hi
 have hsz:=hf.sz
 have hbig:=hf.big
 have hlt:=h.lt hi
 have hi2:=ho.i2
 have hlo:=ho.lo
 have htab:=ho.tab
 have hnd:=repNd (p:=p) (V:=V) hi
 have hfx:=h.inv.fits i _ _ hnd
 have hbl:=hfx.bl
 have hnl:=ndL_length hbl
 have hcl:=h.cntle
 have hszg:(ndL (ldN p V i))[1]?=some (nI f.2.length):=by rw [<- hsz];rfl
 have hndx:=h.ndX hi
 rcases (show f.2.length < size ∨ size < f.2.length ∨ size=f.2.length from by omega) with hc | hc | hc
 ·refine .sr (.assign (.x (.move (.move ?_))))
  refine .call (hc:=Tryz.call147) (sp:=inChg (i:=i) (V0:=V0) (V:=V) (D:=D) ho (h.lt hi) (h.digI hi)) (h:=?_)
  rintro _ _ ⟨rfl,rfl⟩
  simp only [List.cons_append,List.nil_append]
  refine .move ?_
  refine .extract ?_
  refine .extract ?_
  refine .allocL zNd rfl fun b7=>?_
  refine .stLA (xs:=ndL nd0) (us:=ndL (ldN p V i)) ?_ agg228 hnl rfl (ndL_single _)
  refine .assign (.z (.seq (.block (.sr (.move ?_)))))
  refine .nei ?_
  refine .assign (.z ?_)
  refine .condF rfl rfl ?_
  refine .sr (.move ?_)
  refine .lss ?_
  refine .assign (.z ?_)
  refine .condF rfl (congrArg Value.bool (by first|simp;done|simp;omega|unfold nI;simp;omega|omega)) ?_
  refine .sr (.move ?_)
  refine .gtr ?_
  refine .assign (.z ?_)
  refine .condF rfl (congrArg Value.bool (by first|simp;done|simp;omega|unfold nI;simp;omega|omega)) ?_
  refine .sr (.move ?_)
  refine .fa ?_ fo228_1
  refine .ldL (xs:=ndL (ldN p V i)) (i:=1) ?_ sc3 hszg
  refine .gtr ?_
  refine .assign (.z ?_)
  refine .condT rfl (congrArg Value.bool (by first|simp;done|simp;omega|unfold nI;simp;omega|omega)) ?_
  refine .region (.move (.move ?_))
  refine .call (hc:=Tryz.call148) (sp:=inGrow (i:=i) (b:=b7) (size:=size) (x:=ldN p V i) (V0:=V0) (V:=V) (D:=D) h.inv ho hndx hdk (by rw [hsz];omega) (by omega) (hrm.mono (by rw [hsz];omega))) (h:=?_)
  rintro _ _ (⟨hfull,rfl,rfl⟩ | ⟨hle,x1,V1,D1,hG,rfl,rfl⟩)<;>simp only [List.cons_append,List.nil_append]
  ·rw [h.cn,hsz] at hfull
   refine .assign (.nil (.blockNormal (.next (.seq (.sr (.move ?_))))))
   refine .nei ?_
   refine .z ?_
   refine .condT rfl rfl ?_
   refine .sr (.move (.assign (.z ?_)))
   refine .ret (.thenRet (?_))
   exact .ret1 (h1:=.tmp (t:=6) rfl) ⟨_,.inl ⟨hfull,rfl,rfl⟩,Am.auto⟩
  ·rw [h.cn,hsz] at hle
   have hfx1:=hG.inv.fits i x1 _ (updF_same ..)
   have hbl1:=hfx1.bl
   have hwg:=hG.wt
   rw [hsz] at hwg
   have hhm:has f.2.length<=has size:=by rw [has_hs,has_hs];exact hs_mono (dat_mono (by omega))
   have hrep:=h.grown ho hi (by omega) (by omega) hG
   have hsd:=inD_ok (p:=p) hG.dk (v:=p.tb+i / 8) (by omega) (by omega)
   have htr:trB f.2 size=ext f.2 size:=by unfold trB;rw [List.take_of_length_le (by omega)]
   refine .assign (.nil (.blockNormal (.next (.seq (.sr (.move ?_))))))
   refine .nei ?_
   refine .z ?_
   refine .condF rfl rfl ?_
   refine .skip (.next (.sr (.move (.move ?_))))
   refine .ldW (xs:=ndL x1) ?_ agg228 (ndL_length hbl1)
   refine .call (hc:=Tryz.call149) (sp:=inSave (i:=i) (x:=x1) (V0:=V0) (V:=V1) (D:=D1) ho hlt hfx1 (hG.dk.room (c:=0) (hrm.mono (by omega)))) (h:=?_)
   rintro _ _ ⟨rfl,rfl⟩
   simp only [List.cons_append,List.nil_append]
   refine .assign (.z ?_)
   refine .ret (?_)
   exact .ret1 (h1:=.tmp (t:=6) rfl) ⟨_,.inr ⟨hle,_,_,by rw [htr];exact hrep,⟨hsd.1,by omega⟩,rfl,rfl⟩,Am.auto⟩
 ·refine .sr (.assign (.x (.move (.move ?_))))
  refine .call (hc:=Tryz.call147) (sp:=inChg (i:=i) (V0:=V0) (V:=V) (D:=D) ho (h.lt hi) (h.digI hi)) (h:=?_)
  rintro _ _ ⟨rfl,rfl⟩
  simp only [List.cons_append,List.nil_append]
  refine .move ?_
  refine .extract ?_
  refine .extract ?_
  refine .allocL zNd rfl fun b7=>?_
  refine .stLA (xs:=ndL nd0) (us:=ndL (ldN p V i)) ?_ agg228 hnl rfl (ndL_single _)
  refine .assign (.z (.seq (.block (.sr (.move ?_)))))
  refine .nei ?_
  refine .assign (.z ?_)
  refine .condF rfl rfl ?_
  refine .sr (.move ?_)
  refine .lss ?_
  refine .assign (.z ?_)
  refine .condF rfl (congrArg Value.bool (by first|simp;done|simp;omega|unfold nI;simp;omega|omega)) ?_
  refine .sr (.move ?_)
  refine .gtr ?_
  refine .assign (.z ?_)
  refine .condF rfl (congrArg Value.bool (by first|simp;done|simp;omega|unfold nI;simp;omega|omega)) ?_
  refine .sr (.move ?_)
  refine .fa ?_ fo228_1
  refine .ldL (xs:=ndL (ldN p V i)) (i:=1) ?_ sc3 hszg
  refine .gtr ?_
  refine .assign (.z ?_)
  refine .condF rfl (congrArg Value.bool (by first|simp;done|simp;omega|unfold nI;simp;omega|omega)) ?_
  refine .sr (.move ?_)
  refine .fa ?_ fo228_1
  refine .ldL (xs:=ndL (ldN p V i)) (i:=1) ?_ sc3 hszg
  refine .lss ?_
  refine .assign (.z ?_)
  refine .condT rfl (congrArg Value.bool (by first|simp;done|simp;omega|unfold nI;simp;omega|omega)) ?_
  refine .sr (.move (.move ?_))
  refine .call (hc:=Tryz.call179) (sp:=inGive (i:=i) (b:=b7) (size:=size) (x:=ldN p V i) (V0:=V0) (V:=V) (D:=D) h.inv ho hndx hdk (by rw [hsz];omega) (by rw [hsz];omega) (hrm.mono (by omega))) (h:=?_)
  rintro _ _ ⟨x1,V1,D1,hG,rfl,rfl⟩
  simp only [List.cons_append,List.nil_append]
  have hfx1:=hG.inv.fits i x1 _ (updF_same ..)
  have hbl1:=hfx1.bl
  rw [hsz] at hG
  have hrep:=h.shrunk ho hi (by omega) hG
  have hsd:=inD_ok (p:=p) hG.dk (v:=p.tb+i / 8) (by omega) (by omega)
  have hwg:=hG.wt
  have hfx2:Fits ⟨x1.kd,size,x1.bl⟩:=⟨hfx1.bl,fun v hv=>by
   simp only [Nd.nums,List.mem_cons] at hv
   rcases hv with rfl | rfl | hv
   ·exact hfx1.lt _ (by simp [Nd.nums])
   ·omega
   ·exact hfx1.lt _ (by simp [Nd.nums,hv])⟩
  have hhm:has size<=has f.2.length:=by rw [has_hs,has_hs];exact hs_mono (dat_mono (by omega))
  refine .assign (.y (.move ?_))
  refine .fa ?_ fo228_1
  refine .stL (xs:=ndL x1) (i:=1) ?_ sc3 (by rw [ndL_length hbl1];decide)
  refine .to (A:=row b7 228 ((ndL x1).set 1 (nI size))) (A':=row b7 228 (ndL ⟨x1.kd,size,x1.bl⟩)) (fun h hh=>hh) ?_
  refine .nil (.blockNormal (.next (.seq (.sr (.move ?_)))))
  refine .nei ?_
  refine .z ?_
  refine .condF rfl rfl ?_
  refine .skip (.next (.sr (.move (.move ?_))))
  refine .ldW (xs:=ndL ⟨x1.kd,size,x1.bl⟩) ?_ agg228 (ndL_length hbl1)
  refine .call (hc:=Tryz.call149) (sp:=inSave (i:=i) (x:=⟨x1.kd,size,x1.bl⟩) (V0:=V0) (V:=V1) (D:=D1) ho hlt hfx2 (hG.dk.room (c:=0) (hrm.mono (by omega)))) (h:=?_)
  rintro _ _ ⟨rfl,rfl⟩
  simp only [List.cons_append,List.nil_append]
  refine .assign (.z ?_)
  refine .ret (?_)
  exact .ret1 (h1:=.tmp (t:=6) rfl) ⟨_,.inr ⟨by omega,_,_,hrep,⟨hsd.1,by omega⟩,rfl,rfl⟩,Am.auto⟩
 ·have hG:GiL p V V (ndOf p V F0) i (ldN p V i) (ldN p V i) D D size (has f.2.length - has size) (stdS (dat size)):=by
   refine ⟨by rw [hc,updF_self hnd];exact h.inv,Kp.refl _ _ _ _,rfl,rfl,by rw [hc,Nat.sub_self];rfl,fun _ _=>rfl,hdk,rfl⟩
  have hxe:(⟨(ldN p V i).kd,size,(ldN p V i).bl⟩:Nd)=ldN p V i:=by rw [hc,<-hsz]
  have hrep:=h.shrunk ho hi (by omega) hG
  rw [hxe] at hrep
  have hsd:=inD_ok (p:=p) hdk (v:=p.tb+i / 8) (by omega) (by omega)
  refine .sr (.assign (.x (.move (.move ?_))))
  refine .call (hc:=Tryz.call147) (sp:=inChg (i:=i) (V0:=V0) (V:=V) (D:=D) ho (h.lt hi) (h.digI hi)) (h:=?_)
  rintro _ _ ⟨rfl,rfl⟩
  simp only [List.cons_append,List.nil_append]
  refine .move ?_
  refine .extract ?_
  refine .extract ?_
  refine .allocL zNd rfl fun b7=>?_
  refine .stLA (xs:=ndL nd0) (us:=ndL (ldN p V i)) ?_ agg228 hnl rfl (ndL_single _)
  refine .assign (.z (.seq (.block (.sr (.move ?_)))))
  refine .nei ?_
  refine .assign (.z ?_)
  refine .condF rfl rfl ?_
  refine .sr (.move ?_)
  refine .lss ?_
  refine .assign (.z ?_)
  refine .condF rfl (congrArg Value.bool (by first|simp;done|simp;omega|unfold nI;simp;omega|omega)) ?_
  refine .sr (.move ?_)
  refine .gtr ?_
  refine .assign (.z ?_)
  refine .condF rfl (congrArg Value.bool (by first|simp;done|simp;omega|unfold nI;simp;omega|omega)) ?_
  refine .sr (.move ?_)
  refine .fa ?_ fo228_1
  refine .ldL (xs:=ndL (ldN p V i)) (i:=1) ?_ sc3 hszg
  refine .gtr ?_
  refine .assign (.z ?_)
  refine .condF rfl (congrArg Value.bool (by first|simp;done|simp;omega|unfold nI;simp;omega|omega)) ?_
  refine .sr (.move ?_)
  refine .fa ?_ fo228_1
  refine .ldL (xs:=ndL (ldN p V i)) (i:=1) ?_ sc3 hszg
  refine .lss ?_
  refine .assign (.z ?_)
  refine .condF rfl (congrArg Value.bool (by first|simp;done|simp;omega|unfold nI;simp;omega|omega)) ?_
  refine .skip (.blockNormal (.next (.seq (.sr (.move ?_)))))
  refine .nei ?_
  refine .z ?_
  refine .condF rfl rfl ?_
  refine .skip (.next (.sr (.move (.move ?_))))
  refine .ldW (xs:=ndL (ldN p V i)) ?_ agg228 hnl
  refine .call (hc:=Tryz.call149) (sp:=inSave (i:=i) (x:=ldN p V i) (V0:=V0) (V:=V) (D:=D) ho hlt hfx (hdk.room (c:=0) (hrm.mono (by omega)))) (h:=?_)
  rintro _ _ ⟨rfl,rfl⟩
  simp only [List.cons_append,List.nil_append]
  refine .assign (.z ?_)
  refine .ret (?_)
  exact .ret1 (h1:=.tmp (t:=6) rfl) ⟨_,.inr ⟨by rw [hc];omega,_,_,hrep,⟨hsd.1,by omega⟩,rfl,rfl⟩,Am.auto⟩
theorem inDrop {s c a:Nat} {p:Pl} {V0 V:Nat->Bytes} {D:List Nat} {F0:FM} {i:Nat} {f:Nat×Bytes} (h:Rep p V F0) (ho:PlOk p) (hi:F0 i=some f) (hi0:i≠0) (hdk:Dk p D) (hrm:Rm p D 1) :
  Spec Tryz.prog 105 #[.pointer (some ⟨s,0,none⟩),nI i] [pt s (stO c a p),pt a (alO c p),TR c p.n V0 V D true] fun F v M=>∃ V' D',Rep p V' (updM F0 i none)/\(Dk p D'/\wt p D'<=wt p D)/\v=okV/\M=[pt s (stO c a p),pt a (alO c p),TR c p.n V0 V' D' true]++F:=by
 refine Spec.intro Tryz.func105 rfl rfl fun B F=>?_
 simp only [Tryz.ntmps105,List.cons_append,List.nil_append,env0,Nat.reduceAdd]
 have hf:=h.ok i f hi
 have hsz:=hf.sz
 have hbig:=hf.big
 have hlt:=h.lt hi
 have hi2:=ho.i2
 have hlo:=ho.lo
 have htab:=ho.tab
 have hnd:=repNd (p:=p) (V:=V) hi
 have hfx:=h.inv.fits i _ _ hnd
 have hbl:=hfx.bl
 have hnl:=ndL_length hbl
 have hcl:=h.cntle
 have hszg:(ndL (ldN p V i))[1]?=some (nI f.2.length):=by rw [<- hsz];rfl
 have hndx:=h.ndX hi
 refine .sr (.assign (.x (.move (.move ?_))))
 refine .call (hc:=Tryz.call147) (sp:=inChg (i:=i) (V0:=V0) (V:=V) (D:=D) ho (h.lt hi) (h.digI hi)) (h:=?_)
 rintro _ _ ⟨rfl,rfl⟩
 simp only [List.cons_append,List.nil_append]
 refine .move ?_
 refine .extract ?_
 refine .extract ?_
 refine .allocL zNd rfl fun b5=>?_
 refine .stLA (xs:=ndL nd0) (us:=ndL (ldN p V i)) ?_ agg228 hnl rfl (ndL_single _)
 refine .assign (.z (.seq (.block (.sr (.move ?_)))))
 refine .nei ?_
 refine .assign (.z ?_)
 refine .condF rfl rfl ?_
 refine .sr (.move ?_)
 refine .eqi ?_
 refine .assign (.z ?_)
 refine .condF rfl (congrArg Value.bool (by first|simp;done|simp;omega|unfold nI;simp;omega|omega)) ?_
 refine .skip (.blockNormal (.next (.seq (.sr (.move ?_)))))
 refine .call (hc:=Tryz.call179) (sp:=inGive (i:=i) (b:=b5) (size:=0) (x:=ldN p V i) (V0:=V0) (V:=V) (D:=D) h.inv ho hndx hdk (Nat.zero_le _) (by rw [hsz];omega) hrm) (h:=?_)
 rintro _ _ ⟨x1,V1,D1,hG,rfl,rfl⟩
 simp only [List.cons_append,List.nil_append]
 rw [hsz] at hG
 obtain ⟨hrep,hdg⟩:=h.dropped ho hi hi0 hG
 have hwg:=hG.wt
 have him:=(wt_ins p D1 (p.im+i / 4096)).2.1 (by omega)
 have hD2:=hG.dk.ins (k:=p.im+i / 4096) (by omega) (by omega)
 refine .assign (.x (.move ?_))
 refine .nei ?_
 refine .z ?_
 refine .condF rfl rfl ?_
 refine .skip (.next (.sr (.move ?_)))
 refine .nilCheck ?_
 refine .fa ?_ fo266_1
 refine .ld ?_ sc125
 refine .move ?_
 refine .call (hc:=Tryz.call180) (sp:=alGiveInode (k:=i) (V0:=V0) (V:=V1) (D:=D1) ho (hG.dk.room (c:=0) (hrm.mono (by omega))) (by omega) hlt hdg) (h:=?_)
 rintro _ _ ⟨rfl,rfl⟩
 simp only [List.cons_append,List.nil_append]
 refine .assign (.z ?_)
 refine .ret (?_)
 exact .ret1 (h1:=.tmp (t:=4) rfl) ⟨_,⟨_,_,hrep,⟨hD2,by omega⟩,rfl,rfl⟩,Am.auto⟩
theorem read_step {V:Nat->Bytes} {x:Nd} {bs:Bytes} {cur mm at':Nat} (hb:∀ q,q < bs.length->fb V x q=bs.getD q 0) (h1:cur % 512+mm<=512) (h2:cur+mm<=bs.length) (h3:at'<=cur) (h5:(V (ptr V x (cur / 512))).length=512) :
  (bs.drop at').take (cur+mm - at')=(bs.drop at').take (cur - at')++((V (ptr V x (cur / 512))).drop (cur % 512)).take mm:=by
 rw [show cur+mm - at'=(cur - at')+mm from by omega,List.take_add,List.drop_drop,show at'+(cur - at')=cur from by omega]
 congr 1
 apply List.ext_getElem?
 intro j
 simp only [List.getElem?_take,List.getElem?_drop]
 by_cases hj:j < mm
 ·rw [if_pos hj,if_pos hj]
  have:=hb (cur+j) (by omega)
  unfold fb at this
  rw [show (cur+j) / 512=cur / 512 from by omega,show (cur+j) % 512=cur % 512+j from by omega,List.getD_eq_getElem?_getD,List.getD_eq_getElem?_getD,List.getElem?_eq_getElem (by omega),List.getElem?_eq_getElem (by omega)] at this
  rw [List.getElem?_eq_getElem (by omega),List.getElem?_eq_getElem (by omega)]
  exact congrArg some this.symm
 ·rw [if_neg hj,if_neg hj]
theorem inRead {s c a:Nat} {p:Pl} {V0 V:Nat->Bytes} {D:List Nat} {op:Bool} {F0:FM} {i at' k:Nat} {f:Nat×Bytes} (h:Rep p V F0) (ho:PlOk p) (hi:F0 i=some f) (hat:at'<=9223372036854775807) (hk:k<=9223372036854775807) :
  Spec Tryz.prog 107 #[.pointer (some ⟨s,0,none⟩),nI i,nI at',nI k] [pt s (stO c a p),pt a (alO c p),TR c p.n V0 V D op] fun F v M=>∃ u,v=.tuple #[u,.int .i64 0]/\M=rowR 5 1 u ((f.2.drop at').take k).length (bvs ((f.2.drop at').take k)) :: [pt s (stO c a p),pt a (alO c p),TR c p.n V0 V D op]++F:=by
 refine Spec.intro Tryz.func107 rfl rfl fun B F=>?_
 simp only [Tryz.ntmps107,List.cons_append,List.nil_append,env0,Nat.reduceAdd]
 have hf:=h.ok i f hi
 have hsz:=hf.sz
 have hbig:=hf.big
 have hlt:=h.lt hi
 have hi2:=ho.i2
 have hlo:=ho.lo
 have htab:=ho.tab
 have hnd:=repNd (p:=p) (V:=V) hi
 have hfx:=h.inv.fits i _ _ hnd
 have hbl:=hfx.bl
 have hnl:=ndL_length hbl
 have hcl:=h.cntle
 have hszg:(ndL (ldN p V i))[1]?=some (nI f.2.length):=by rw [<- hsz];rfl
 have hmxl:maxLen=9223372036854775807:=rfl
 have hd138:=dat_le hbig
 rcases (show ¬ at' < f.2.length ∨ (at' < f.2.length/\k < f.2.length - at') ∨ (at' < f.2.length/\¬ k < f.2.length - at') from by omega) with hc | ⟨hc,hc2⟩ | ⟨hc,hc2⟩
 ·obtain ⟨en,hen,hen1,hen2⟩:∃ en,en=f.2.length/\en<=f.2.length/\(f.2.drop at').take k=(f.2.drop at').take (en - at'):=⟨_,rfl,by omega,by rw [List.drop_eq_nil_of_le (by omega),List.take_nil,List.take_nil]⟩
  refine .sr (.assign (.assign (.x (.move (.move ?_)))))
  refine .call (hc:=Tryz.call181) (sp:=inLoad (i:=i) (V0:=V0) (V:=V) (D:=D) (op:=op) ho (h.lt hi) (h.digI hi)) (h:=?_)
  rintro _ _ ⟨rfl,rfl⟩
  simp only [List.cons_append,List.nil_append]
  refine .move ?_
  refine .extract ?_
  refine .extract ?_
  refine .allocL zNd rfl fun b10=>?_
  refine .stLA (xs:=ndL nd0) (us:=ndL (ldN p V i)) ?_ agg228 hnl rfl (ndL_single _)
  refine .assign (.z (.seq (.sr (.move ?_))))
  refine .nei ?_
  refine .z ?_
  refine .condF rfl rfl ?_
  refine .skip (.next (.seq (.sr (.move ?_))))
  refine .lss ?_
  refine .move ?_
  refine .cast (d:=30) (u:=.bool false) rfl (congrArg Value.bool (by first|simp;done|simp;omega|unfold nI;simp;omega|omega)) ?_
  refine .gT ?_
  refine .move ?_
  refine .gT ?_
  refine .lss ?_
  refine .pickF ?_
  refine .z ?_
  refine .condF rfl (congrArg Value.bool (by first|simp;done|simp;omega|unfold nI;simp;omega|omega)) ?_
  refine .skip (.next (.sr ?_))
  refine .fa ?_ fo228_1
  refine .ldL (xs:=ndL (ldN p V i)) (i:=1) ?_ sc3 hszg
  refine .cast (d:=35) (u:=nI en) rfl (congrArg nI hen.symm) ?_
  refine .assign (.z (.seq (.sr (.move (.move ?_)))))
  refine .lss ?_
  refine .move ?_
  refine .cast (d:=39) (u:=.bool false) rfl (congrArg Value.bool (by first|simp;done|simp;omega|unfold nI;simp;omega|omega)) ?_
  refine .gF ?_
  refine .gF ?_
  refine .gF ?_
  refine .gF ?_
  refine .gF ?_
  refine .pickF ?_
  refine .z ?_
  refine .condF rfl rfl ?_
  refine .skip (.next (.sr (.assign ?_)))
  refine .emp (A:=rowR 5 1 (.slice none 0 0) (at' - at') (bvs ((f.2.drop at').take (at' - at')))) (by rw [Nat.sub_self];exact rowR.nil _) ?_
  refine .z (.seq (.block ?_))
  refine .loopA (σ:=Nat×Value) (fun y=>[(0,.pointer (some ⟨s,0,none⟩)),(2,nI y.1),(10,.pointer (some ⟨b10,0,none⟩)),(12,nI en),(13,y.2)]) (fun y=>[rowR 5 1 y.2 (y.1 - at') (bvs ((f.2.drop at').take (y.1 - at'))),row b10 228 (ndL (ldN p V i)),pt s (stO c a p),pt a (alO c p),TR c p.n V0 V D op]++F) (fun y=>at'<=y.1/\(y.1<=en ∨ y.1=at')) (fun y=>en - y.1) (at',.slice none 0 0) ⟨Nat.le_refl _,.inr rfl⟩ ?_
  rintro ⟨cur,u⟩ hy
  obtain ⟨hc1,hc2⟩:=hy
  simp only at hc1 hc2
  refine .seq (.sr (.move (.move ?_)))
  refine .lss ?_
  refine .z ?_
  refine .cond rfl (fun hb=>?_) (fun hb=>?_)
  ·have hlt2:cur < en:=by have:=of_decide_eq_true hb;omega
   obtain ⟨mm,hmm⟩:∃ mm,mm=min (512 - cur % 512) (en - cur):=⟨_,rfl⟩
   have hSk:stdS (dat f.2.length) (cur / 512)=true:=stdS_iff.2 (.inl (by unfold dat;omega))
   have hrk:=h.inv.rng i _ _ _ hnd hSk
   have hV200:10<=cur / 512->245<=(ldN p V i).bl.getD 10 0/\(ldN p V i).bl.getD 10 0 < p.n:=fun h10=>by
    have:=h.inv.rng i _ _ 200 hnd (stdS_iff.2 (.inr ⟨rfl,by unfold dat;omega⟩))
    rw [ptr_200] at this
    omega
   have hrs:=read_step (cur:=cur) (mm:=mm) (at':=at') hf.byt (by omega) (by omega) hc1 (h.inv.len _)
   refine .skip (.next (.block (.sr (.move ?_))))
   refine .ldW (xs:=ndL (ldN p V i)) ?_ agg228 hnl
   refine .move ?_
   refine .quo ?_
   refine .cast (d:=56) (u:=nI (cur / 512)) rfl (congrArg (Value.int .i64) (by omega)) ?_
   refine .call (hc:=Tryz.call182) (sp:=inBlock (x:=ldN p V i) (k:=cur / 512) (V0:=V0) (V:=V) (D:=D) (op:=op) hbl (by omega) hV200) (h:=?_)
   rintro _ _ ⟨rfl,rfl⟩
   simp only [List.cons_append,List.nil_append]
   refine .move ?_
   refine .extract ?_
   refine .extract ?_
   refine .assign (.assign (.z (.seq (.sr (.move ?_)))))
   refine .nei ?_
   refine .z ?_
   refine .condF rfl rfl ?_
   refine .skip (.next (.sr (.move ?_)))
   refine .nilCheck ?_
   refine .fa ?_ fo266_0
   refine .ld ?_ sc124
   refine .move ?_
   refine .call (hc:=Tryz.call183) (sp:=tRead (n:=p.n) (V0:=V0) (V:=V) (D:=D) (op:=op) (k:=ptr V (ldN p V i) (cur / 512)) (by omega) (by omega)) (h:=?_)
   rintro _ _ ⟨gb,q,el,rfl,⟨hq1,hq2,hl5⟩,rfl⟩
   refine .move ?_
   refine .extract ?_
   refine .extract ?_
   refine .assign (.assign (.z (.seq (.sr (.move ?_)))))
   refine .nei ?_
   refine .z ?_
   refine .condF rfl rfl ?_
   refine .skip (.next (.sr (.move ?_)))
   refine .rem ?_
   refine .cast (d:=76) (u:=nI (cur % 512)) rfl (congrArg (Value.int .i64) (by omega)) ?_
   refine .assign (.x (.move (.move ?_)))
   refine .add ?_
   refine .move ?_
   refine .sub ?_
   refine .minI ?_
   refine .cast (d:=82) (u:=nI (cur % 512+mm)) rfl (congrArg (Value.int .i64) (by split<;>omega)) ?_
   refine .assign (.x (.move (.move (.move (.move ?_)))))
   refine .slcLH ?_ so33
   refine .cast (d:=87) (u:=.slice (some ⟨gb,cur % 512,none⟩) mm (q - cur % 512)) rfl (by rw [show ((cur % 512:Nat):Int).toNat=cur % 512 from Int.toNat_natCast _,show ((cur % 512+mm:Nat):Int).toNat=cur % 512+mm from Int.toNat_natCast _,if_neg (by omega),Nat.zero_add,Nat.mul_one,show cur % 512+mm - cur % 512=mm from by omega]) ?_
   have hnews:Reads (buf gb el q (bvs (V (ptr V (ldN p V i) (cur / 512))))) (some ⟨gb,cur % 512,none⟩) (bvs (((V (ptr V (ldN p V i) (cur / 512))).drop (cur % 512)).take mm)):=by
    have:=(Reads.buf (g:=gb) (e:=el) (k:=q) (xs:=bvs (V (ptr V (ldN p V i) (cur / 512))))).drop (cur % 512)
    rw [Nat.zero_add] at this
    rw [bvs_take,bvs_drop]
    exact this.take mm
   refine .appendAny (m:=mm) so33 (by decide) (by repeat (first | exact .here | apply Rem.there | apply Repl.there | apply Mem.there)) hnews (by repeat (first | exact .here | apply Rem.there | apply Repl.there | apply Mem.there)) (by rw [bvs_length,List.length_take,List.length_drop,hl5];omega) (bvs_single _) (by omega) (by omega) ⟨_,z5,rfl⟩ (fun vB hvB=>?_)
   refine .assign (.y (.move (.move (.move ?_))))
   refine .sub ?_
   refine .add ?_
   refine .cast (d:=93) (u:=nI (cur+mm)) rfl (congrArg (Value.int .i64) (by omega)) ?_
   refine .assign (.nil (.blockNormal ?_))
   refine .to (A:=rowR 5 1 vB (cur - at'+mm) (bvs ((f.2.drop at').take (cur - at'))++bvs (((V (ptr V (ldN p V i) (cur / 512))).drop (cur % 512)).take mm))) (A':=rowR 5 1 vB (cur+mm - at') (bvs ((f.2.drop at').take (cur+mm - at')))) (fun h hh=>by rw [hrs,bvs_append,show cur+mm - at'=cur - at'+mm from by omega];exact hh) ?_
   exact .back (cur+mm,vB) ⟨by show at'<=cur+mm;omega,by show cur+mm<=en ∨ cur+mm=at';omega⟩ (by show en - (cur+mm) < en - cur;omega)
  ·have hge:¬ cur < en:=by have:=of_decide_eq_false hb;omega
   have hfe:(f.2.drop at').take (cur - at')=(f.2.drop at').take k:=by
    rw [hen2]
    rcases hc2 with h1 | h1
    ·rw [show cur=en from by omega]
    ·rw [show cur - at'=0 from by omega,show en - at'=0 from by omega]
   have hfl:((f.2.drop at').take k).length=cur - at':=by
    rw [<- hfe,List.length_take,List.length_drop]
    omega
   refine .exit (.thenExit (.thenExit (.blockExit (?_))))
   refine .next (.sr (.move (.assign (.assign (.z ?_)))))
   refine .ret (?_)
   refine .to (A:=rowR 5 1 u (cur - at') (bvs ((f.2.drop at').take (cur - at')))) (A':=rowR 5 1 u ((f.2.drop at').take k).length (bvs ((f.2.drop at').take k))) (fun h hh=>by rw [hfl,<-hfe];exact hh) ?_
   exact .ret2 (h1:=.tmp (t:=8) rfl) (h2:=.tmp (t:=9) rfl) ⟨_,⟨u,rfl,rfl⟩,Am.auto⟩
 ·obtain ⟨en,hen,hen1,hen2⟩:∃ en,en=at'+k/\en<=f.2.length/\(f.2.drop at').take k=(f.2.drop at').take (en - at'):=⟨_,rfl,by omega,by congr 1;omega⟩
  refine .sr (.assign (.assign (.x (.move (.move ?_)))))
  refine .call (hc:=Tryz.call181) (sp:=inLoad (i:=i) (V0:=V0) (V:=V) (D:=D) (op:=op) ho (h.lt hi) (h.digI hi)) (h:=?_)
  rintro _ _ ⟨rfl,rfl⟩
  simp only [List.cons_append,List.nil_append]
  refine .move ?_
  refine .extract ?_
  refine .extract ?_
  refine .allocL zNd rfl fun b10=>?_
  refine .stLA (xs:=ndL nd0) (us:=ndL (ldN p V i)) ?_ agg228 hnl rfl (ndL_single _)
  refine .assign (.z (.seq (.sr (.move ?_))))
  refine .nei ?_
  refine .z ?_
  refine .condF rfl rfl ?_
  refine .skip (.next (.seq (.sr (.move ?_))))
  refine .lss ?_
  refine .move ?_
  refine .cast (d:=30) (u:=.bool false) rfl (congrArg Value.bool (by first|simp;done|simp;omega|unfold nI;simp;omega|omega)) ?_
  refine .gT ?_
  refine .move ?_
  refine .gT ?_
  refine .lss ?_
  refine .pickF ?_
  refine .z ?_
  refine .condF rfl (congrArg Value.bool (by first|simp;done|simp;omega|unfold nI;simp;omega|omega)) ?_
  refine .skip (.next (.sr ?_))
  refine .fa ?_ fo228_1
  refine .ldL (xs:=ndL (ldN p V i)) (i:=1) ?_ sc3 hszg
  refine .assign (.z (.seq (.sr (.move (.move ?_)))))
  refine .lss ?_
  refine .move ?_
  refine .cast (d:=39) (u:=.bool true) rfl (congrArg Value.bool (by first|simp;done|simp;omega|unfold nI;simp;omega|omega)) ?_
  refine .gT ?_
  refine .move ?_
  refine .gT ?_
  refine .move ?_
  refine .gT ?_
  refine .move ?_
  refine .gT ?_
  refine .sub ?_
  refine .gT ?_
  refine .lss ?_
  refine .pickT ?_
  refine .z ?_
  refine .condT rfl (congrArg Value.bool (by first|simp;done|simp;omega|unfold nI;simp;omega|omega)) ?_
  refine .region (.move (.move ?_))
  refine .add ?_
  refine .cast (d:=48) (u:=nI en) rfl (congrArg (Value.int .i64) (by omega)) ?_
  refine .assign (.x (.assign ?_))
  refine .emp (A:=rowR 5 1 (.slice none 0 0) (at' - at') (bvs ((f.2.drop at').take (at' - at')))) (by rw [Nat.sub_self];exact rowR.nil _) ?_
  refine .z (.seq (.block ?_))
  refine .loopA (σ:=Nat×Value) (fun y=>[(0,.pointer (some ⟨s,0,none⟩)),(2,nI y.1),(10,.pointer (some ⟨b10,0,none⟩)),(12,nI en),(13,y.2)]) (fun y=>[rowR 5 1 y.2 (y.1 - at') (bvs ((f.2.drop at').take (y.1 - at'))),row b10 228 (ndL (ldN p V i)),pt s (stO c a p),pt a (alO c p),TR c p.n V0 V D op]++F) (fun y=>at'<=y.1/\(y.1<=en ∨ y.1=at')) (fun y=>en - y.1) (at',.slice none 0 0) ⟨Nat.le_refl _,.inr rfl⟩ ?_
  rintro ⟨cur,u⟩ hy
  obtain ⟨hc1,hc2⟩:=hy
  simp only at hc1 hc2
  refine .seq (.sr (.move (.move ?_)))
  refine .lss ?_
  refine .z ?_
  refine .cond rfl (fun hb=>?_) (fun hb=>?_)
  ·have hlt2:cur < en:=by have:=of_decide_eq_true hb;omega
   obtain ⟨mm,hmm⟩:∃ mm,mm=min (512 - cur % 512) (en - cur):=⟨_,rfl⟩
   have hSk:stdS (dat f.2.length) (cur / 512)=true:=stdS_iff.2 (.inl (by unfold dat;omega))
   have hrk:=h.inv.rng i _ _ _ hnd hSk
   have hV200:10<=cur / 512->245<=(ldN p V i).bl.getD 10 0/\(ldN p V i).bl.getD 10 0 < p.n:=fun h10=>by
    have:=h.inv.rng i _ _ 200 hnd (stdS_iff.2 (.inr ⟨rfl,by unfold dat;omega⟩))
    rw [ptr_200] at this
    omega
   have hrs:=read_step (cur:=cur) (mm:=mm) (at':=at') hf.byt (by omega) (by omega) hc1 (h.inv.len _)
   refine .skip (.next (.block (.sr (.move ?_))))
   refine .ldW (xs:=ndL (ldN p V i)) ?_ agg228 hnl
   refine .move ?_
   refine .quo ?_
   refine .cast (d:=56) (u:=nI (cur / 512)) rfl (congrArg (Value.int .i64) (by omega)) ?_
   refine .call (hc:=Tryz.call182) (sp:=inBlock (x:=ldN p V i) (k:=cur / 512) (V0:=V0) (V:=V) (D:=D) (op:=op) hbl (by omega) hV200) (h:=?_)
   rintro _ _ ⟨rfl,rfl⟩
   simp only [List.cons_append,List.nil_append]
   refine .move ?_
   refine .extract ?_
   refine .extract ?_
   refine .assign (.assign (.z (.seq (.sr (.move ?_)))))
   refine .nei ?_
   refine .z ?_
   refine .condF rfl rfl ?_
   refine .skip (.next (.sr (.move ?_)))
   refine .nilCheck ?_
   refine .fa ?_ fo266_0
   refine .ld ?_ sc124
   refine .move ?_
   refine .call (hc:=Tryz.call183) (sp:=tRead (n:=p.n) (V0:=V0) (V:=V) (D:=D) (op:=op) (k:=ptr V (ldN p V i) (cur / 512)) (by omega) (by omega)) (h:=?_)
   rintro _ _ ⟨gb,q,el,rfl,⟨hq1,hq2,hl5⟩,rfl⟩
   refine .move ?_
   refine .extract ?_
   refine .extract ?_
   refine .assign (.assign (.z (.seq (.sr (.move ?_)))))
   refine .nei ?_
   refine .z ?_
   refine .condF rfl rfl ?_
   refine .skip (.next (.sr (.move ?_)))
   refine .rem ?_
   refine .cast (d:=76) (u:=nI (cur % 512)) rfl (congrArg (Value.int .i64) (by omega)) ?_
   refine .assign (.x (.move (.move ?_)))
   refine .add ?_
   refine .move ?_
   refine .sub ?_
   refine .minI ?_
   refine .cast (d:=82) (u:=nI (cur % 512+mm)) rfl (congrArg (Value.int .i64) (by split<;>omega)) ?_
   refine .assign (.x (.move (.move (.move (.move ?_)))))
   refine .slcLH ?_ so33
   refine .cast (d:=87) (u:=.slice (some ⟨gb,cur % 512,none⟩) mm (q - cur % 512)) rfl (by rw [show ((cur % 512:Nat):Int).toNat=cur % 512 from Int.toNat_natCast _,show ((cur % 512+mm:Nat):Int).toNat=cur % 512+mm from Int.toNat_natCast _,if_neg (by omega),Nat.zero_add,Nat.mul_one,show cur % 512+mm - cur % 512=mm from by omega]) ?_
   have hnews:Reads (buf gb el q (bvs (V (ptr V (ldN p V i) (cur / 512))))) (some ⟨gb,cur % 512,none⟩) (bvs (((V (ptr V (ldN p V i) (cur / 512))).drop (cur % 512)).take mm)):=by
    have:=(Reads.buf (g:=gb) (e:=el) (k:=q) (xs:=bvs (V (ptr V (ldN p V i) (cur / 512))))).drop (cur % 512)
    rw [Nat.zero_add] at this
    rw [bvs_take,bvs_drop]
    exact this.take mm
   refine .appendAny (m:=mm) so33 (by decide) (by repeat (first | exact .here | apply Rem.there | apply Repl.there | apply Mem.there)) hnews (by repeat (first | exact .here | apply Rem.there | apply Repl.there | apply Mem.there)) (by rw [bvs_length,List.length_take,List.length_drop,hl5];omega) (bvs_single _) (by omega) (by omega) ⟨_,z5,rfl⟩ (fun vB hvB=>?_)
   refine .assign (.y (.move (.move (.move ?_))))
   refine .sub ?_
   refine .add ?_
   refine .cast (d:=93) (u:=nI (cur+mm)) rfl (congrArg (Value.int .i64) (by omega)) ?_
   refine .assign (.nil (.blockNormal ?_))
   refine .to (A:=rowR 5 1 vB (cur - at'+mm) (bvs ((f.2.drop at').take (cur - at'))++bvs (((V (ptr V (ldN p V i) (cur / 512))).drop (cur % 512)).take mm))) (A':=rowR 5 1 vB (cur+mm - at') (bvs ((f.2.drop at').take (cur+mm - at')))) (fun h hh=>by rw [hrs,bvs_append,show cur+mm - at'=cur - at'+mm from by omega];exact hh) ?_
   exact .back (cur+mm,vB) ⟨by show at'<=cur+mm;omega,by show cur+mm<=en ∨ cur+mm=at';omega⟩ (by show en - (cur+mm) < en - cur;omega)
  ·have hge:¬ cur < en:=by have:=of_decide_eq_false hb;omega
   have hfe:(f.2.drop at').take (cur - at')=(f.2.drop at').take k:=by
    rw [hen2]
    rcases hc2 with h1 | h1
    ·rw [show cur=en from by omega]
    ·rw [show cur - at'=0 from by omega,show en - at'=0 from by omega]
   have hfl:((f.2.drop at').take k).length=cur - at':=by
    rw [<- hfe,List.length_take,List.length_drop]
    omega
   refine .exit (.thenExit (.thenExit (.blockExit (?_))))
   refine .next (.sr (.move (.assign (.assign (.z ?_)))))
   refine .ret (?_)
   refine .to (A:=rowR 5 1 u (cur - at') (bvs ((f.2.drop at').take (cur - at')))) (A':=rowR 5 1 u ((f.2.drop at').take k).length (bvs ((f.2.drop at').take k))) (fun h hh=>by rw [hfl,<-hfe];exact hh) ?_
   exact .ret2 (h1:=.tmp (t:=8) rfl) (h2:=.tmp (t:=9) rfl) ⟨_,⟨u,rfl,rfl⟩,Am.auto⟩
 ·obtain ⟨en,hen,hen1,hen2⟩:∃ en,en=f.2.length/\en<=f.2.length/\(f.2.drop at').take k=(f.2.drop at').take (en - at'):=⟨_,rfl,by omega,by rw [List.take_of_length_le (by rw [List.length_drop];omega),List.take_of_length_le (by rw [List.length_drop];omega)]⟩
  refine .sr (.assign (.assign (.x (.move (.move ?_)))))
  refine .call (hc:=Tryz.call181) (sp:=inLoad (i:=i) (V0:=V0) (V:=V) (D:=D) (op:=op) ho (h.lt hi) (h.digI hi)) (h:=?_)
  rintro _ _ ⟨rfl,rfl⟩
  simp only [List.cons_append,List.nil_append]
  refine .move ?_
  refine .extract ?_
  refine .extract ?_
  refine .allocL zNd rfl fun b10=>?_
  refine .stLA (xs:=ndL nd0) (us:=ndL (ldN p V i)) ?_ agg228 hnl rfl (ndL_single _)
  refine .assign (.z (.seq (.sr (.move ?_))))
  refine .nei ?_
  refine .z ?_
  refine .condF rfl rfl ?_
  refine .skip (.next (.seq (.sr (.move ?_))))
  refine .lss ?_
  refine .move ?_
  refine .cast (d:=30) (u:=.bool false) rfl (congrArg Value.bool (by first|simp;done|simp;omega|unfold nI;simp;omega|omega)) ?_
  refine .gT ?_
  refine .move ?_
  refine .gT ?_
  refine .lss ?_
  refine .pickF ?_
  refine .z ?_
  refine .condF rfl (congrArg Value.bool (by first|simp;done|simp;omega|unfold nI;simp;omega|omega)) ?_
  refine .skip (.next (.sr ?_))
  refine .fa ?_ fo228_1
  refine .ldL (xs:=ndL (ldN p V i)) (i:=1) ?_ sc3 hszg
  refine .cast (d:=35) (u:=nI en) rfl (congrArg nI hen.symm) ?_
  refine .assign (.z (.seq (.sr (.move (.move ?_)))))
  refine .lss ?_
  refine .move ?_
  refine .cast (d:=39) (u:=.bool true) rfl (congrArg Value.bool (by first|simp;done|simp;omega|unfold nI;simp;omega|omega)) ?_
  refine .gT ?_
  refine .move ?_
  refine .gT ?_
  refine .move ?_
  refine .gT ?_
  refine .move ?_
  refine .gT ?_
  refine .sub ?_
  refine .gT ?_
  refine .lss ?_
  refine .pickT ?_
  refine .z ?_
  refine .condF rfl (congrArg Value.bool (by first|simp;done|simp;omega|unfold nI;simp;omega|omega)) ?_
  refine .skip (.next (.sr (.assign ?_)))
  refine .emp (A:=rowR 5 1 (.slice none 0 0) (at' - at') (bvs ((f.2.drop at').take (at' - at')))) (by rw [Nat.sub_self];exact rowR.nil _) ?_
  refine .z (.seq (.block ?_))
  refine .loopA (σ:=Nat×Value) (fun y=>[(0,.pointer (some ⟨s,0,none⟩)),(2,nI y.1),(10,.pointer (some ⟨b10,0,none⟩)),(12,nI en),(13,y.2)]) (fun y=>[rowR 5 1 y.2 (y.1 - at') (bvs ((f.2.drop at').take (y.1 - at'))),row b10 228 (ndL (ldN p V i)),pt s (stO c a p),pt a (alO c p),TR c p.n V0 V D op]++F) (fun y=>at'<=y.1/\(y.1<=en ∨ y.1=at')) (fun y=>en - y.1) (at',.slice none 0 0) ⟨Nat.le_refl _,.inr rfl⟩ ?_
  rintro ⟨cur,u⟩ hy
  obtain ⟨hc1,hc2⟩:=hy
  simp only at hc1 hc2
  refine .seq (.sr (.move (.move ?_)))
  refine .lss ?_
  refine .z ?_
  refine .cond rfl (fun hb=>?_) (fun hb=>?_)
  ·have hlt2:cur < en:=by have:=of_decide_eq_true hb;omega
   obtain ⟨mm,hmm⟩:∃ mm,mm=min (512 - cur % 512) (en - cur):=⟨_,rfl⟩
   have hSk:stdS (dat f.2.length) (cur / 512)=true:=stdS_iff.2 (.inl (by unfold dat;omega))
   have hrk:=h.inv.rng i _ _ _ hnd hSk
   have hV200:10<=cur / 512->245<=(ldN p V i).bl.getD 10 0/\(ldN p V i).bl.getD 10 0 < p.n:=fun h10=>by
    have:=h.inv.rng i _ _ 200 hnd (stdS_iff.2 (.inr ⟨rfl,by unfold dat;omega⟩))
    rw [ptr_200] at this
    omega
   have hrs:=read_step (cur:=cur) (mm:=mm) (at':=at') hf.byt (by omega) (by omega) hc1 (h.inv.len _)
   refine .skip (.next (.block (.sr (.move ?_))))
   refine .ldW (xs:=ndL (ldN p V i)) ?_ agg228 hnl
   refine .move ?_
   refine .quo ?_
   refine .cast (d:=56) (u:=nI (cur / 512)) rfl (congrArg (Value.int .i64) (by omega)) ?_
   refine .call (hc:=Tryz.call182) (sp:=inBlock (x:=ldN p V i) (k:=cur / 512) (V0:=V0) (V:=V) (D:=D) (op:=op) hbl (by omega) hV200) (h:=?_)
   rintro _ _ ⟨rfl,rfl⟩
   simp only [List.cons_append,List.nil_append]
   refine .move ?_
   refine .extract ?_
   refine .extract ?_
   refine .assign (.assign (.z (.seq (.sr (.move ?_)))))
   refine .nei ?_
   refine .z ?_
   refine .condF rfl rfl ?_
   refine .skip (.next (.sr (.move ?_)))
   refine .nilCheck ?_
   refine .fa ?_ fo266_0
   refine .ld ?_ sc124
   refine .move ?_
   refine .call (hc:=Tryz.call183) (sp:=tRead (n:=p.n) (V0:=V0) (V:=V) (D:=D) (op:=op) (k:=ptr V (ldN p V i) (cur / 512)) (by omega) (by omega)) (h:=?_)
   rintro _ _ ⟨gb,q,el,rfl,⟨hq1,hq2,hl5⟩,rfl⟩
   refine .move ?_
   refine .extract ?_
   refine .extract ?_
   refine .assign (.assign (.z (.seq (.sr (.move ?_)))))
   refine .nei ?_
   refine .z ?_
   refine .condF rfl rfl ?_
   refine .skip (.next (.sr (.move ?_)))
   refine .rem ?_
   refine .cast (d:=76) (u:=nI (cur % 512)) rfl (congrArg (Value.int .i64) (by omega)) ?_
   refine .assign (.x (.move (.move ?_)))
   refine .add ?_
   refine .move ?_
   refine .sub ?_
   refine .minI ?_
   refine .cast (d:=82) (u:=nI (cur % 512+mm)) rfl (congrArg (Value.int .i64) (by split<;>omega)) ?_
   refine .assign (.x (.move (.move (.move (.move ?_)))))
   refine .slcLH ?_ so33
   refine .cast (d:=87) (u:=.slice (some ⟨gb,cur % 512,none⟩) mm (q - cur % 512)) rfl (by rw [show ((cur % 512:Nat):Int).toNat=cur % 512 from Int.toNat_natCast _,show ((cur % 512+mm:Nat):Int).toNat=cur % 512+mm from Int.toNat_natCast _,if_neg (by omega),Nat.zero_add,Nat.mul_one,show cur % 512+mm - cur % 512=mm from by omega]) ?_
   have hnews:Reads (buf gb el q (bvs (V (ptr V (ldN p V i) (cur / 512))))) (some ⟨gb,cur % 512,none⟩) (bvs (((V (ptr V (ldN p V i) (cur / 512))).drop (cur % 512)).take mm)):=by
    have:=(Reads.buf (g:=gb) (e:=el) (k:=q) (xs:=bvs (V (ptr V (ldN p V i) (cur / 512))))).drop (cur % 512)
    rw [Nat.zero_add] at this
    rw [bvs_take,bvs_drop]
    exact this.take mm
   refine .appendAny (m:=mm) so33 (by decide) (by repeat (first | exact .here | apply Rem.there | apply Repl.there | apply Mem.there)) hnews (by repeat (first | exact .here | apply Rem.there | apply Repl.there | apply Mem.there)) (by rw [bvs_length,List.length_take,List.length_drop,hl5];omega) (bvs_single _) (by omega) (by omega) ⟨_,z5,rfl⟩ (fun vB hvB=>?_)
   refine .assign (.y (.move (.move (.move ?_))))
   refine .sub ?_
   refine .add ?_
   refine .cast (d:=93) (u:=nI (cur+mm)) rfl (congrArg (Value.int .i64) (by omega)) ?_
   refine .assign (.nil (.blockNormal ?_))
   refine .to (A:=rowR 5 1 vB (cur - at'+mm) (bvs ((f.2.drop at').take (cur - at'))++bvs (((V (ptr V (ldN p V i) (cur / 512))).drop (cur % 512)).take mm))) (A':=rowR 5 1 vB (cur+mm - at') (bvs ((f.2.drop at').take (cur+mm - at')))) (fun h hh=>by rw [hrs,bvs_append,show cur+mm - at'=cur - at'+mm from by omega];exact hh) ?_
   exact .back (cur+mm,vB) ⟨by show at'<=cur+mm;omega,by show cur+mm<=en ∨ cur+mm=at';omega⟩ (by show en - (cur+mm) < en - cur;omega)
  ·have hge:¬ cur < en:=by have:=of_decide_eq_false hb;omega
   have hfe:(f.2.drop at').take (cur - at')=(f.2.drop at').take k:=by
    rw [hen2]
    rcases hc2 with h1 | h1
    ·rw [show cur=en from by omega]
    ·rw [show cur - at'=0 from by omega,show en - at'=0 from by omega]
   have hfl:((f.2.drop at').take k).length=cur - at':=by
    rw [<- hfe,List.length_take,List.length_drop]
    omega
   refine .exit (.thenExit (.thenExit (.blockExit (?_))))
   refine .next (.sr (.move (.assign (.assign (.z ?_)))))
   refine .ret (?_)
   refine .to (A:=rowR 5 1 u (cur - at') (bvs ((f.2.drop at').take (cur - at')))) (A':=rowR 5 1 u ((f.2.drop at').take k).length (bvs ((f.2.drop at').take k))) (fun h hh=>by rw [hfl,<-hfe];exact hh) ?_
   exact .ret2 (h1:=.tmp (t:=8) rfl) (h2:=.tmp (t:=9) rfl) ⟨_,⟨u,rfl,rfl⟩,Am.auto⟩
end Go.Proofs.YtdmjkjeoamiedaaGreatDoor
end
