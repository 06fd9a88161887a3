/- A part of the proof of lawFsFull: texts of this work put together. -/
import Derived.Test.YtdmjkjeoamiedaaGreatDoorQq1
import Derived.KernelRfl
import Derived.Shelf.SlIterI.Sorted
import Derived.Shelf.Slices.In.SortNone
import Derived.Shelf.Sort.Plain
set_option linter.unusedVariables false
set_option linter.unusedSimpArgs false
set_option linter.unusedSectionVars false
section
namespace Go.Proofs.YtdmjkjeoamiedaaGreatDoor
open Go
def devO (n:Nat) (fl wr mn:Nat) (ops left:Int):Obj:=.cells #[.int .i64 (n:Int),.map (some fl),.map (some wr),.map (some mn),.int .i64 ops,.bool false,.int .i64 left] 290 (0,0)
abbrev intE:Int->Value:=Value.int .i64
abbrev pairE:Int×Int->Value:=fun k=>Value.agg (ints [k.1,k.2]).toArray
theorem klInt {kt:Nat} (h:intOk Tryz.prog kt .i64=true):KeyLaw Tryz.prog kt intE:=intKeys (int_of h)
theorem klF:KeyLaw Tryz.prog 3 intE:=klInt (by kernel_rfl)
theorem klW:KeyLaw Tryz.prog 383 pairE:=structKeys (fun k:Int×Int=>[k.1,k.2]) (n:=2) (by kernel_rfl) (fun _=>rfl) (fun a b h=>by
 obtain ⟨a1,a2⟩:=a
 obtain ⟨b1,b2⟩:=b
 simp only [List.cons.injEq,and_true] at h
 rw [h.1,h.2])
theorem bdPend (a b:Int):BuildOk Tryz.prog 383 [(0,.int .i64 a),(1,.int .i64 b)] #[.int .i64 a,.int .i64 b]:=fun w=>by kernel_rfl
theorem bdDev (n:Int) (a b c:Nat):BuildOk Tryz.prog 290 [(0,.int .i64 n),(1,.map (some a)),(2,.map (some b)),(3,.map (some c))] #[.int .i64 n,.map (some a),.map (some b),.map (some c),.int .i64 0,.bool false,.int .i64 0]:=fun w=>by kernel_rfl
def nilS:Value:=.slice none 0 0
def lastV (kF:List (Int×Value)) (kW:List ((Int×Int)×Value)) (k c:Int):Value:=if 0 < c then (kget kW (k,c)).getD nilS else (kget kF k).getD nilS
def zeros:Bytes:=List.replicate 512 0
theorem zeros_length:zeros.length=512:=List.length_replicate
structure DevX where
 fl:Nat
 wr:Nat
 mn:Nat
 esF:Array MapEntry
 esW:Array MapEntry
 esM:Array MapEntry
 cF:Nat
 cW:Nat
 cM:Nat
 kF:List (Int×Value)
 kW:List ((Int×Int)×Value)
 kM:List (Int×Value)
 bl:List (Value×Bytes)
 ops:Int
 left:Int
def Holds1 (kF:List (Int×Value)) (kW:List ((Int×Int)×Value)) (bl:List (Value×Bytes)) (k c:Int) (xs:Bytes):Prop :=
 (lastV kF kW k c=nilS/\xs=zeros) ∨ (lastV kF kW k c,xs)∈bl
structure DevP (n:Nat) (cur:Nat->Bytes) (t:Nat) (x:DevX):Prop where
 mF:MapIs intE x.esF x.cF x.kF
 mW:MapIs pairE x.esW x.cW x.kW
 mM:MapIs intE x.esM x.cM x.kM
 n1:1<=n
 n2:n<=65536
 len:∀ p∈x.bl,p.2.length=512
 many:∀ k v,kget x.kM k=some v->∃ c:Int,v=.int .i64 c/\0<=c/\c<=(t:Int)
 dom:∀ k v,kget x.kM k=some v->0<=k/\k < (n:Int)
 holds:∀ k:Nat,k < n->∀ c:Int,(kget x.kM (k:Int)).getD (.int .i64 0)=.int .i64 c->Holds1 x.kF x.kW x.bl k c (cur k)
def devL (d n:Nat) (x:DevX):List HP:=[pt d (devO n x.fl x.wr x.mn x.ops x.left),pt x.fl (.map x.esF x.cF),pt x.wr (.map x.esW x.cW),pt x.mn (.map x.esM x.cM),blobs x.bl]
def DevR (d n:Nat) (cur:Nat->Bytes) (t:Nat):HP:=fun h=>∃ x,DevP n cur t x/\star (devL d n x) h
theorem DevR.opens (d n:Nat) (cur:Nat->Bytes) (t:Nat):Opens (DevR d n cur t) (DevP n cur t) (devL d n):=⟨fun h hh=>hh,fun x hp h hh=>⟨x,hp,hh⟩⟩
attribute [irreducible] DevR
theorem getM_int {n t:Nat} {cur:Nat->Bytes} {x:DevX} (hp:DevP n cur t x) (k:Int):∃ c:Int,(kget x.kM k).getD (.int .i64 0)=.int .i64 c/\0<=c/\c<=(t:Int):=by
 cases h:kget x.kM k with
 | none=>exact ⟨0,rfl,by omega,by omega⟩
 | some v=>obtain ⟨c,rfl,h1,h2⟩:=hp.many k v h;exact ⟨c,rfl,h1,h2⟩
theorem devMade {n:Int}:Spec Tryz.prog 128 #[.int .i64 n] [] fun F v M=>∃ d fl wr mn,v=.pointer (some ⟨d,0,none⟩)/\M=pt d (.cells #[.int .i64 n,.map (some fl),.map (some wr),.map (some mn),.int .i64 0,.bool false,.int .i64 0] 290 (0,0)) :: pt mn (.map #[] 0) :: pt wr (.map #[] 0) :: pt fl (.map #[] 0) :: F:=by
 refine Spec.intro Tryz.func128 rfl rfl fun B F=>?_
 simp only [Tryz.ntmps128,List.cons_append,List.nil_append,env0,Nat.reduceAdd]
 refine .sr (.assign (.x (.move ?_)))
 refine .mkMap fun m4=>?_
 refine .mkMap fun m5=>?_
 refine .mkMap fun m6=>?_
 refine .build ?_ (bdDev _ _ _ _)
 refine .box fun b8=>?_
 refine .assign (.z ?_)
 refine .ret (?_)
 exact .ret1 (h1:=.tmp (t:=2) rfl) ⟨_,⟨_,_,_,_,rfl,rfl⟩,Am.auto⟩
theorem devNew {n:Nat} (h1:1<=n) (h2:n<=65536):Spec Tryz.prog 62 #[.int .i64 (n:Int)] [] fun F v M=>∃ d,v=.tuple #[.pointer (some ⟨d,0,none⟩),.int .i64 0]/\M=DevR d n (fun _=>zeros) 0 :: F:=by
 refine Spec.intro Tryz.func62 rfl rfl fun B F=>?_
 simp only [Tryz.ntmps62,List.cons_append,List.nil_append,env0,Nat.reduceAdd]
 refine .sr (.assign (.assign (.z (.seq (.sr (.move ?_))))))
 refine .lss ?_
 refine .move ?_
 refine .cast (d:=6) (u:=.bool false) rfl (congrArg Value.bool (by first|simp;done|simp;omega|omega)) ?_
 refine .gT ?_
 refine .move ?_
 refine .gT ?_
 refine .gtr ?_
 refine .pickF ?_
 refine .z ?_
 refine .condF rfl (congrArg Value.bool (by first|simp;done|simp;omega|omega)) ?_
 refine .skip (.next (.sr (.move ?_)))
 refine .call (hc:=Tryz.call128) (sp:=devMade) (h:=?_)
 rintro _ _ ⟨d,fl,wr,mn,rfl,rfl⟩
 refine .assign (.assign (.z ?_))
 refine .ret (?_)
 refine .blobsNil ?_
 refine .shutR (DevR.opens d n (fun _=>zeros) 0) ⟨fl,wr,mn,#[],#[],#[],0,0,0,[],[],[],[],0,0⟩ ⟨MapIs.empty _ _,MapIs.empty _ _,MapIs.empty _ _,h1,h2,by simp,by simp [kget],by simp [kget],?_⟩ ?_
 ·intro k hk c hc
  simp only [kget,Option.getD_none,Value.int.injEq,true_and] at hc
  subst hc
  exact .inl ⟨rfl,rfl⟩
 exact .ret2 (h1:=.tmp (t:=2) rfl) (h2:=.tmp (t:=3) rfl) ⟨_,⟨d,rfl,rfl⟩,Am.auto⟩
theorem devBlocksR {d n t:Nat} {cur:Nat->Bytes}:Spec Tryz.prog 130 #[.pointer (some ⟨d,0,none⟩)] [DevR d n cur t] fun F v M=>v=.int .i64 (n:Int)/\M=DevR d n cur t :: F:=by
 refine Spec.intro Tryz.func130 rfl rfl fun B F=>?_
 simp only [Tryz.ntmps130,List.cons_append,List.nil_append,env0,Nat.reduceAdd]
 refine .openR (DevR.opens d n cur t) fun x hp=>?_
 simp only [devL,List.cons_append,List.nil_append]
 refine .sr (.assign (.z (.seq (.sr (.move ?_)))))
 refine .eqNil ?_ ptr22
 refine .z ?_
 refine .condF rfl rfl ?_
 refine .skip (.next (.sr (.move ?_)))
 refine .nilCheck ?_
 refine .fa ?_ fo290_0
 refine .ld ?_ sc3
 refine .assign (.z ?_)
 refine .ret (?_)
 refine .shutR (DevR.opens d n cur t) x hp ?_
 exact .ret1 (h1:=.tmp (t:=2) rfl) ⟨_,⟨rfl,rfl⟩,Am.auto⟩
theorem devOp {d n fl wr mn:Nat} {ops left:Int} (hn:1<=n):Spec Tryz.prog 271 #[.pointer (some ⟨d,0,none⟩)] [pt d (devO n fl wr mn ops left)] fun F v M=>∃ ops' left',v=.bool true/\M=pt d (devO n fl wr mn ops' left') :: F:=by
 refine Spec.intro Tryz.func271 rfl rfl fun B F=>?_
 simp only [Tryz.ntmps271,List.cons_append,List.nil_append,env0,Nat.reduceAdd]
 refine .sr (.assign (.z (.seq (.sr (.move ?_)))))
 refine .eqNil ?_ ptr22
 refine .move ?_
 refine .gT ?_
 refine .move ?_
 refine .gT ?_
 refine .nilCheck ?_
 refine .gT ?_
 refine .fa ?_ fo290_0
 refine .gT ?_
 refine .ld ?_ sc3
 refine .gT ?_
 refine .eqi ?_
 refine .pickF ?_
 refine .z ?_
 refine .condF rfl (congrArg Value.bool (by first|simp;done|simp;omega|omega)) ?_
 refine .skip (.next (.sr (.move ?_)))
 refine .nilCheck ?_
 refine .fa ?_ fo290_4
 refine .ld ?_ sc3
 refine .addw ?_
 refine .nilCheck ?_
 refine .fa ?_ fo290_4
 refine .st ?_ sc3
 refine .z (.seq (.sr (.move ?_)))
 refine .nilCheck ?_
 refine .fa ?_ fo290_5
 refine .ld ?_ sc4
 refine .move ?_
 refine .gF ?_
 refine .gF ?_
 refine .gF ?_
 refine .gF ?_
 refine .gF ?_
 refine .pickF ?_
 refine .z ?_
 refine .condF rfl rfl ?_
 refine .skip (.next (.sr (.move ?_)))
 refine .nilCheck ?_
 refine .fa ?_ fo290_6
 refine .ld ?_ sc3
 refine .subw ?_
 refine .nilCheck ?_
 refine .fa ?_ fo290_6
 refine .st ?_ sc3
 refine .x (.assign (.z ?_))
 refine .ret (?_)
 exact .ret1 (h1:=.tmp (t:=2) rfl) ⟨_,⟨_,_,rfl,rfl⟩,Am.auto⟩
theorem devLast {d n fl wr mn:Nat} {ops left k c:Int} {esF esW esM:Array MapEntry} {cF cW cM:Nat} {kF:List (Int×Value)} {kW:List ((Int×Int)×Value)} {kM:List (Int×Value)} (mF:MapIs intE esF cF kF) (mW:MapIs pairE esW cW kW) (mM:MapIs intE esM cM kM) (hc:(kget kM k).getD (.int .i64 0)=.int .i64 c) :
  Spec Tryz.prog 270 #[.pointer (some ⟨d,0,none⟩),.int .i64 k] [pt d (devO n fl wr mn ops left),pt fl (.map esF cF),pt wr (.map esW cW),pt mn (.map esM cM)] fun F v M=>v=lastV kF kW k c/\M=pt d (devO n fl wr mn ops left) :: pt fl (.map esF cF) :: pt wr (.map esW cW) :: pt mn (.map esM cM) :: F:=by
 refine Spec.intro Tryz.func270 rfl rfl fun B F=>?_
 simp only [Tryz.ntmps270,List.cons_append,List.nil_append,env0,Nat.reduceAdd]
 refine .sr (.assign (.z (.seq (.sr (.move ?_)))))
 refine .nilCheck ?_
 refine .fa ?_ fo290_3
 refine .ld ?_ sc288
 refine .move ?_
 refine .look klF mM mp288 zv3 ?_
 refine .cast (d:=11) rfl hc ?_
 refine .assign (.x (.move ?_))
 refine .gtr ?_
 refine .z ?_
 refine .cond rfl (fun hb=>?_) (fun hb=>?_)
 ·have hpos:0 < c:=of_decide_eq_true hb
  refine .sr (.move ?_)
  refine .nilCheck ?_
  refine .fa ?_ fo290_2
  refine .ld ?_ sc287
  refine .move (.move ?_)
  refine .build ?_ (bdPend _ _)
  refine .look (k:=(k,c)) klW mW mp287 zv33 ?_
  refine .assign (.z ?_)
  refine .ret (.thenRet (?_))
  exact .ret1 (h1:=.tmp (t:=4) rfl) ⟨_,⟨by unfold lastV;rw [if_pos hpos];rfl,rfl⟩,Am.auto⟩
 ·have hpos:¬ 0 < c:=of_decide_eq_false hb
  refine .skip (.next (.sr (.move ?_)))
  refine .nilCheck ?_
  refine .fa ?_ fo290_1
  refine .ld ?_ sc286
  refine .move ?_
  refine .look klF mF mp286 zv33 ?_
  refine .assign (.z ?_)
  refine .ret (?_)
  exact .ret1 (h1:=.tmp (t:=4) rfl) ⟨_,⟨by unfold lastV;rw [if_neg hpos];rfl,rfl⟩,Am.auto⟩
theorem devRead {d n t k:Nat} {cur:Nat->Bytes} (hk:k < n):Spec Tryz.prog 218 #[.pointer (some ⟨d,0,none⟩),.int .i64 (k:Int)] [DevR d n cur t] fun F v M=>∃ g q,v=.tuple #[.slice (some ⟨g,0,none⟩) 512 q,.int .i64 0]/\(512<=q/\q<=maxLen/\(cur k).length=512)/\M=buf g 5 q (bvs (cur k)) :: DevR d n cur t :: F:=by
 refine Spec.intro Tryz.func218 rfl rfl fun B F=>?_
 simp only [Tryz.ntmps218,List.cons_append,List.nil_append,env0,Nat.reduceAdd]
 refine .openR (DevR.opens d n cur t) fun x hp=>?_
 simp only [devL,List.cons_append,List.nil_append]
 obtain ⟨c,hc,hc0,hct⟩:=getM_int hp (k:Int)
 have hn2:=hp.n2
 have hold:=hp.holds k hk c hc
 refine .sr (.assign (.assign (.z (.seq (.sr (.move ?_))))))
 refine .eqNil ?_ ptr22
 refine .move ?_
 refine .gT ?_
 refine .move ?_
 refine .gT ?_
 refine .lss ?_
 refine .pickF ?_
 refine .move ?_
 refine .cast (d:=13) (u:=.bool false) rfl (congrArg Value.bool (by first|simp;done|simp;omega|omega)) ?_
 refine .gT ?_
 refine .move ?_
 refine .gT ?_
 refine .move ?_
 refine .gT ?_
 refine .nilCheck ?_
 refine .gT ?_
 refine .fa ?_ fo290_0
 refine .gT ?_
 refine .ld ?_ sc3
 refine .gT ?_
 refine .geq ?_
 refine .pickF ?_
 refine .z ?_
 refine .condF rfl (congrArg Value.bool (by first|simp;done|simp;omega|omega)) ?_
 refine .skip (.next (.sr ?_))
 refine .mkSN 512 z5 so33 (by decide) (by decide) fun b21=>?_
 refine .assign (.x (.move (.move (.move ?_))))
 refine .call (hc:=Tryz.call270) (sp:=devLast hp.mF hp.mW hp.mM hc) (h:=?_)
 rintro _ _ ⟨rfl,rfl⟩
 rcases hold with ⟨hnil,hzero⟩ | hbl
 ·refine .cast (d:=25) rfl (hnil:lastV x.kF x.kW (k:Int) c=nilS) ?_
  refine .copy (R:=blobs x.bl) (ys:=[]) so33 Reads.nil rfl (by simp) ?_
  have hxs:(List.replicate 512 (Value.int .u8 0)).take 0++([]:List Value).take (min 0 512)++(List.replicate 512 (Value.int .u8 0)).drop (0+min 0 512)=bvs (cur k):=by
   rw [hzero];unfold zeros;rw [bvs_replicate];exact laid_none
  have hlen:(cur k).length=512:=by rw [hzero];exact zeros_length
  refine .x (.move (.assign (.assign (.z ?_))))
  refine .ret (?_)
  refine .to (r:=.here) (A':=buf b21 5 512 (bvs (cur k))) (fun h hh=>by rw [<- hxs];exact hh) ?_
  refine .shutR (DevR.opens d n cur t) x hp ?_
  exact .ret2 (h1:=.tmp (t:=4) rfl) (h2:=.tmp (t:=5) rfl) ⟨_,⟨_,_,rfl,⟨by decide,by decide,hlen⟩,rfl⟩,Am.auto⟩
 ·refine .fact (blobs_shape hbl) fun hsh=>?_
  obtain ⟨gb,cb,hv,hcb⟩:=hsh
  rw [hv] at hbl
  have hl5:(cur k).length=512:=hp.len _ hbl
  refine .cast (d:=25) rfl (hv:lastV x.kF x.kW (k:Int) c=_) ?_
  refine .copy (R:=blobs x.bl) (ys:=bvs (cur k)) so33 (Reads.blob hbl) (bvs_length _) (bvs_single _) ?_
  have hxs:(List.replicate 512 (Value.int .u8 0)).take 0++(bvs (cur k)).take (min (cur k).length 512)++(List.replicate 512 (Value.int .u8 0)).drop (0+min (cur k).length 512)=bvs (cur k):=by
   exact laid_whole hl5 (bvs_length _) List.length_replicate
  have hlen:(cur k).length=512:=hl5
  refine .x (.move (.assign (.assign (.z ?_))))
  refine .ret (?_)
  refine .to (r:=.here) (A':=buf b21 5 512 (bvs (cur k))) (fun h hh=>by rw [<- hxs];exact hh) ?_
  refine .shutR (DevR.opens d n cur t) x hp ?_
  exact .ret2 (h1:=.tmp (t:=4) rfl) (h2:=.tmp (t:=5) rfl) ⟨_,⟨_,_,rfl,⟨by decide,by decide,hlen⟩,rfl⟩,Am.auto⟩
def wr (cur:Nat->Bytes) (k:Nat) (xs:Bytes):Nat->Bytes:=fun j=>if j=k then xs else cur j
theorem DevP.write {n t:Nat} {cur:Nat->Bytes} {x:DevX} (hp:DevP n cur t x) {k:Nat} (hk:k < n) {c:Int} (hc0:0<=c) (hct:c<=(t:Int)) {v:Value} {xs:Bytes} (hx:xs.length=512) {esW' esM':Array MapEntry} {cW' cM':Nat}
  (mW':MapIs pairE esW' cW' (kput x.kW ((k:Int),c+1) v)) (mM':MapIs intE esM' cM' (kput x.kM (k:Int) (.int .i64 (c+1)))) (ops left:Int) :
  DevP n (wr cur k xs) (t+1) ⟨x.fl,x.wr,x.mn,x.esF,esW',esM',x.cF,cW',cM',x.kF,kput x.kW ((k:Int),c+1) v,kput x.kM (k:Int) (.int .i64 (c+1)),(v,xs) :: x.bl,ops,left⟩:=by
 refine ⟨hp.mF,mW',mM',hp.n1,hp.n2,?_,?_,?_,?_⟩
 ·intro p hp'
  rcases List.mem_cons.1 hp' with rfl | hp'
  ·exact hx
  ·exact hp.len p hp'
 ·intro j u hj
  simp only [kget_put] at hj
  split at hj
  ·injection hj with hj
   exact ⟨c+1,hj.symm,by omega,by omega⟩
  ·obtain ⟨c',h1,h2,h3⟩:=hp.many j u hj
   exact ⟨c',h1,h2,by omega⟩
 ·intro j u hj
  simp only [kget_put] at hj
  split at hj
  ·rename_i h;subst h;omega
  ·exact hp.dom j u hj
 ·intro j hj c' hc'
  simp only [kget_put] at hc'
  by_cases hjk:j=k
  ·subst hjk
   simp only [if_true,Option.getD_some,Value.int.injEq,true_and] at hc'
   subst hc'
   right
   simp only [wr,if_true]
   have:lastV x.kF (kput x.kW ((j:Int),c+1) v) (j:Int) (c+1)=v:=by
    unfold lastV
    rw [if_pos (by omega),kget_put,if_pos rfl]
    rfl
   rw [this]
   exact List.mem_cons_self ..
  ·have hjk':¬ (j:Int)=(k:Int):=by omega
   rw [if_neg hjk'] at hc'
   have h1:=hp.holds j hj c' hc'
   have hl:lastV x.kF (kput x.kW ((k:Int),c+1) v) (j:Int) c'=lastV x.kF x.kW (j:Int) c':=by
    unfold lastV
    rw [kget_put,if_neg (show ¬ ((j:Int),c')=((k:Int),c+1) from fun h=>hjk' (congrArg Prod.fst h))]
   unfold Holds1 at h1 ⊢
   simp only [wr,hjk,if_false]
   rw [hl]
   rcases h1 with h1 | h1
   ·exact .inl h1
   ·exact .inr (List.mem_cons_of_mem _ h1)
theorem devWrite {d n t k m c':Nat} {cur:Nat->Bytes} {R:HP} {A:Addr} {xs:Bytes} (hR:Reads R (some A) (bvs xs)) (hm:xs.length=m) (hm5:m=512) (hk:k < n) (ht:t<=1000000):Spec Tryz.prog 260 #[.pointer (some ⟨d,0,none⟩),.int .i64 (k:Int),.slice (some A) m c'] [DevR d n cur t,R] fun F v M=>v=.int .i64 0/\M=DevR d n (wr cur k xs) (t+1) :: R :: F:=by
 refine Spec.intro Tryz.func260 rfl rfl fun B F=>?_
 simp only [Tryz.ntmps260,List.cons_append,List.nil_append,env0,Nat.reduceAdd]
 refine .openR (DevR.opens d n cur t) fun x hp=>?_
 simp only [devL,List.cons_append,List.nil_append]
 obtain ⟨c,hc,hc0,hct⟩:=getM_int hp (k:Int)
 have hn2:=hp.n2
 have hn1:=hp.n1
 subst hm
 have hn:xs.length=xs.length:=rfl
 have hl:xs.length<=1073741824:=by omega
 refine .sr (.assign (.z (.seq (.sr (.move ?_)))))
 refine .call (hc:=Tryz.call271) (sp:=devOp hn1) (h:=?_)
 rintro _ _ ⟨ops',left',rfl,rfl⟩
 refine .not ?_
 refine .z ?_
 refine .condF rfl rfl ?_
 refine .skip (.next (.seq (.sr (.move ?_))))
 refine .lss ?_
 refine .move ?_
 refine .cast (d:=12) (u:=.bool false) rfl (congrArg Value.bool (by first|simp;done|simp;omega|omega)) ?_
 refine .gT ?_
 refine .move ?_
 refine .gT ?_
 refine .move ?_
 refine .gT ?_
 refine .nilCheck ?_
 refine .gT ?_
 refine .fa ?_ fo290_0
 refine .gT ?_
 refine .ld ?_ sc3
 refine .gT ?_
 refine .geq ?_
 refine .pickF ?_
 refine .move ?_
 refine .cast (d:=20) (u:=.bool false) rfl (congrArg Value.bool (by first|simp;done|simp;omega|omega)) ?_
 refine .gT ?_
 refine .move ?_
 refine .gT ?_
 refine .lenS ?_ sl33
 refine .gT ?_
 refine .nei ?_
 refine .pickF ?_
 refine .z ?_
 refine .condF rfl (congrArg Value.bool (by first|simp;done|simp;omega|omega)) ?_
 refine .skip (.next (.sr (.move ?_)))
 refine .nilCheck ?_
 refine .fa ?_ fo290_3
 refine .ld ?_ sc288
 refine .move ?_
 refine .look klF hp.mM mp288 zv3 ?_
 refine .cast (d:=30) rfl hc ?_
 refine .add ?_
 refine .upd klF hp.mM mp288 fun es_1 c_1 hm_1=>?_
 refine .z (.seq ?_)
 refine .dr ([pt d (devO n x.fl x.wr x.mn ops' left'),pt x.mn (.map es_1 c_1)]) [14] 15 mixed .autoJ ?_
 refine .tk 0 rfl .move ?_
 refine .tk 1 rfl .nilCheck ?_
 refine .tk 2 rfl (.fa fo290_2) ?_
 refine .tk 3 rfl (.ld sc287) ?_
 refine .tk 4 rfl .move ?_
 refine .tk 5 rfl .move ?_
 refine .tk 6 rfl .nilCheck ?_
 refine .tk 7 rfl (.fa fo290_3) ?_
 refine .tk 8 rfl (.ld sc288) ?_
 refine .tk 9 rfl .move ?_
 refine .tk 10 rfl ((Qt.look (k:=(k:Int)) klF hm_1 mp288 zv3).eq (v':=.int .i64 (c+1)) (by rw [kget_put,if_pos rfl];rfl)) ?_
 refine .tk 11 rfl (.build (bdPend _ _)) ?_
 refine .tk 12 rfl .move ?_
 refine .on 13 rfl fun hnp=>?_
 refine .call (hc:=Tryz.call152) (sp:=bytesClone hR hn hl) (h:=?_)
 rintro _ _ ⟨gc,kc,⟨rfl,hc1,hc2⟩,rfl⟩
 refine .nil (.wa hnp ?_)
 refine .on 14 rfl fun hnp=>?_
 refine .upd (k:=((k:Int),c+1)) klW hp.mW mp287 fun es_2 c_2 hm_2=>?_
 refine .nil (.wb hnp ?_)
 refine .fin ?_
 refine .next (.sr (.assign (.z ?_)))
 refine .ret (?_)
 refine .blobsAdd (bl:=x.bl) hc1 ?_
 refine .shutR (DevR.opens d n (wr cur k xs) (t+1)) _ (hp.write hk hc0 hct hm5 hm_2 hm_1 ops' left') ?_
 exact .ret1 (h1:=.tmp (t:=6) rfl) ⟨_,⟨rfl,rfl⟩,Am.auto⟩
def cntOf (kM:List (Int×Value)) (k:Int):Int:=match (kget kM k).getD (.int .i64 0) with | .int _ c=>c | _=>0
def valF (kF:List (Int×Value)) (k:Int):Value:=(kget kF k).getD nilS
structure FlushI (x:DevX) (seen:Array Nat) (esF:Array MapEntry) (cF:Nat) (kF:List (Int×Value)):Prop where
 mF:MapIs intE esF cF kF
 each:∀ j,valF kF j=valF x.kF j ∨ valF kF j=lastV x.kF x.kW j (cntOf x.kM j)
 met:∀ m∈x.esM.toList,seen.contains m.born=true->∀ j,m.key=intE j->valF kF j=lastV x.kF x.kW j (cntOf x.kM j)
theorem FlushI.start {n t:Nat} {cur:Nat->Bytes} {x:DevX} (hp:DevP n cur t x):FlushI x #[] x.esF x.cF x.kF:=⟨hp.mF,fun _=>.inl rfl,fun m _ h=>by simp at h⟩
theorem MapIs.entry {κ:Type} [DecidableEq κ] {enc:κ->Value} {es:Array MapEntry} {c:Nat} {kvs:List (κ×Value)} (h:MapIs enc es c kvs) {m:MapEntry} (hm:m∈es.toList):∃ k,m.key=enc k/\kget kvs k=some m.val:=by
 obtain ⟨i,hi,rfl⟩:=List.mem_iff_getElem.1 hm
 have hl:es.toList.length=kvs.length:=by simpa using h.length
 have h1:(es.toList.map (·.key))[i]?=(kvs.map fun p=>enc p.1)[i]?:=by rw [h.keys]
 have h2:(es.toList.map (·.val))[i]?=(kvs.map (·.2))[i]?:=by rw [h.vals]
 have hk:i < kvs.length:=by omega
 rw [List.getElem?_map,List.getElem?_map,List.getElem?_eq_getElem hi,List.getElem?_eq_getElem hk] at h1 h2
 injection h1 with h1
 injection h2 with h2
 exact ⟨kvs[i].1,h1,(kget_mem h.nodup).2 (by
  have:(kvs[i].1,es.toList[i].val)=kvs[i]:=Prod.ext rfl h2
  rw [this]
  exact List.getElem_mem hk)⟩
theorem MapIs.has {κ:Type} [DecidableEq κ] {enc:κ->Value} {es:Array MapEntry} {c:Nat} {kvs:List (κ×Value)} (h:MapIs enc es c kvs) {k:κ} {v:Value} (hk:kget kvs k=some v):∃ m∈es.toList,m.key=enc k:=by
 have hm:=(kget_mem h.nodup).1 hk
 have:enc k∈es.toList.map (·.key):=by
  rw [h.keys]
  exact List.mem_map.2 ⟨_,hm,rfl⟩
 obtain ⟨m,h1,h2⟩:=List.mem_map.1 this
 exact ⟨m,h1,h2⟩
theorem FlushI.step {n t:Nat} {cur:Nat->Bytes} {x:DevX} (hp:DevP n cur t x) {seen:Array Nat} {esF esF':Array MapEntry} {cF cF':Nat} {kF:List (Int×Value)} (h:FlushI x seen esF cF kF) {m:MapEntry} (hm:m∈left x.esM seen) {k c:Int} (hk:m.key=intE k)
  (hc:(kget x.kM k).getD (.int .i64 0)=.int .i64 c) (mF':MapIs intE esF' cF' (kput kF k (lastV kF x.kW k c))):FlushI x (seen.push m.born) esF' cF' (kput kF k (lastV kF x.kW k c)):=by
 have hcnt:cntOf x.kM k=c:=by unfold cntOf;rw [hc]
 have hl:lastV kF x.kW k c=lastV x.kF x.kW k c:=by
  unfold lastV
  split
  ·rfl
  ·rename_i h0
   rcases h.each k with h1 | h1
   ·exact h1
   ·refine h1.trans ?_
    rw [hcnt];unfold lastV;rw [if_neg h0]
 have hv:∀ j,valF (kput kF k (lastV kF x.kW k c)) j=if j=k then lastV x.kF x.kW k c else valF kF j:=by
  intro j
  unfold valF
  rw [kget_put]
  split
  ·exact hl
  ·rfl
 refine ⟨mF',fun j=>?_,fun m' hm' hs j hj=>?_⟩
 ·rw [hv]
  split
  ·rename_i he;subst he;rw [hcnt];exact .inr rfl
  ·exact h.each j
 ·rw [hv]
  split
  ·rename_i he;subst he;rw [hcnt]
  ·rename_i hne
   refine h.met m' hm' ?_ j hj
   rw [Array.contains_push] at hs
   simp only [Bool.or_eq_true,beq_iff_eq] at hs
   rcases hs with hs | hs
   ·exact hs
   ·exfalso
    have hmm:=(List.mem_filter.1 hm).1
    have:m'=m:=by
     have hb:=hp.mM.born
     obtain ⟨i,hi,rfl⟩:=List.mem_iff_getElem.1 hm'
     obtain ⟨i',hi',rfl⟩:=List.mem_iff_getElem.1 hmm
     have hpw:=List.pairwise_iff_getElem.1 hb
     rcases Nat.lt_trichotomy i i' with hlt | heq | hgt
     ·have:=hpw i i' (by simpa using hi) (by simpa using hi') hlt
      simp only [List.getElem_map] at this;omega
     ·subst heq;rfl
     ·have:=hpw i' i (by simpa using hi') (by simpa using hi) hgt
      simp only [List.getElem_map] at this;omega
    subst this
    rw [hk] at hj
    injection hj with _ hj
    exact hne hj.symm
theorem FlushI.done {n t:Nat} {cur:Nat->Bytes} {x:DevX} (hp:DevP n cur t x) {seen:Array Nat} {esF:Array MapEntry} {cF:Nat} {kF:List (Int×Value)} (h:FlushI x seen esF cF kF) (h0:left x.esM seen=[]) (ops left':Int) :
  DevP n cur 0 ⟨x.fl,x.wr,x.mn,esF,#[],#[],cF,x.cW,x.cM,kF,[],[],x.bl,ops,left'⟩:=by
 have hall:∀ j,valF kF j=lastV x.kF x.kW j (cntOf x.kM j):=by
  intro j
  cases hk:kget x.kM j with
  | some v =>
   obtain ⟨m,h1,h2⟩:=hp.mM.has hk
   refine h.met m h1 ?_ j h2
   cases hs:seen.contains m.born with
   | true=>rfl
   | false =>
    have:m∈left x.esM seen:=List.mem_filter.2 ⟨h1,by simp only [hs];rfl⟩
    rw [h0] at this;cases this
  | none =>
   have hc:cntOf x.kM j=0:=by unfold cntOf;rw [hk];rfl
   rcases h.each j with h1 | h1
   ·rw [h1,hc];unfold lastV;rw [if_neg (by decide)];rfl
   ·exact h1
 refine ⟨h.mF,MapIs.empty _ _,MapIs.empty _ _,hp.n1,hp.n2,hp.len,by simp [kget],by simp [kget],?_⟩
 intro k hk c hc
 simp only [kget,Option.getD_none,Value.int.injEq,true_and] at hc
 subst hc
 obtain ⟨c,hc,_⟩:=getM_int hp (k:Int)
 have h1:=hp.holds k hk c hc
 have hcnt:cntOf x.kM (k:Int)=c:=by unfold cntOf;rw [hc]
 have h2:lastV kF [] (k:Int) 0=lastV x.kF x.kW (k:Int) c:=by
  have:=hall (k:Int)
  rw [hcnt] at this
  rw [<- this]
  unfold lastV valF
  rw [if_neg (by decide)]
 unfold Holds1 at h1 ⊢
 simp only [h2]
 exact h1
theorem devFlush {d n t:Nat} {cur:Nat->Bytes}:Spec Tryz.prog 222 #[.pointer (some ⟨d,0,none⟩)] [DevR d n cur t] fun F v M=>v=.int .i64 0/\M=DevR d n cur 0 :: F:=by
 refine Spec.intro Tryz.func222 rfl rfl fun B F=>?_
 simp only [Tryz.ntmps222,List.cons_append,List.nil_append,env0,Nat.reduceAdd]
 refine .openR (DevR.opens d n cur t) fun x hp=>?_
 simp only [devL,List.cons_append,List.nil_append]
 have hn1:=hp.n1
 refine .sr (.assign (.z (.seq (.sr (.move ?_)))))
 refine .call (hc:=Tryz.call271) (sp:=devOp hn1) (h:=?_)
 rintro _ _ ⟨ops',left',rfl,rfl⟩
 refine .not ?_
 refine .z ?_
 refine .condF rfl rfl ?_
 refine .skip (.next (.seq (.sr (.move ?_))))
 refine .nilCheck ?_
 refine .fa ?_ fo290_3
 refine .ld ?_ sc288
 refine .range mp288 fun it=>?_
 refine .z (.block ?_)
 refine .loopA (σ:=Array Nat×Array MapEntry×Nat×List (Int×Value)) (fun s=>[(0,.pointer (some ⟨d,0,none⟩)),(11,.pointer (some ⟨it,0,none⟩))]) (fun s=>pt it (.mapIter (some x.mn) x.cM s.1 x.cM) :: pt d (devO n x.fl x.wr x.mn ops' left') :: pt x.fl (.map s.2.1 s.2.2.1) :: pt x.wr (.map x.esW x.cW) :: pt x.mn (.map x.esM x.cM) :: blobs x.bl :: F) (fun s=>FlushI x s.1 s.2.1 s.2.2.1 s.2.2.2) (fun s=>(left x.esM s.1).length) (#[],x.esF,x.cF,x.kF) (FlushI.start hp) ?_
 rintro ⟨seen,esF',cF',kF⟩ hi
 refine .sr ?_
 refine .next hp.mM.lt (fun h0=>?_) (fun m hm=>?_)
 ·refine .extract ?_
  refine .z (.seq ?_)
  refine .condF rfl rfl ?_
  refine .exit (.thenExit (.thenExit (.blockExit (?_))))
  refine .next (.sr (.move ?_))
  refine .nilCheck ?_
  refine .fa ?_ fo290_2
  refine .ld ?_ sc287
  refine .clearM ?_ mp287
  refine .x (.move ?_)
  refine .nilCheck ?_
  refine .fa ?_ fo290_3
  refine .ld ?_ sc288
  refine .clearM ?_ mp288
  refine .x (.assign (.z ?_))
  refine .ret (?_)
  refine .shutR (DevR.opens d n cur 0) _ (hi.done hp h0 ops' left') ?_
  exact .ret1 (h1:=.tmp (t:=2) rfl) ⟨_,⟨rfl,rfl⟩,Am.auto⟩
 ·obtain ⟨k,hk,hkv⟩:=hp.mM.entry (List.mem_filter.1 hm).1
  obtain ⟨c,hc,hc0,hct⟩:=getM_int hp k
  refine .extract ?_
  refine .z (.seq ?_)
  refine .condT rfl rfl ?_
  refine .skip (.next (.block (.sr ?_)))
  refine .entry (List.mem_filter.1 hm).1 hp.mM.born ?_
  refine .extract ?_
  refine .cast (d:=15) rfl hk ?_
  refine .assign (.z ?_)
  refine .dr ([pt d (devO n x.fl x.wr x.mn ops' left')]) [8] 9 mixed .autoJ ?_
  refine .tk 0 rfl .move ?_
  refine .tk 1 rfl .nilCheck ?_
  refine .tk 2 rfl (.fa fo290_1) ?_
  refine .tk 3 rfl (.ld sc286) ?_
  refine .tk 4 rfl .move ?_
  refine .tk 5 rfl .move ?_
  refine .tk 6 rfl .move ?_
  refine .on 7 rfl fun hnp=>?_
  refine .call (hc:=Tryz.call270) (sp:=devLast hi.mF hp.mW hp.mM hc) (h:=?_)
  rintro _ _ ⟨rfl,rfl⟩
  refine .nil (.wa hnp ?_)
  refine .on 8 rfl fun hnp=>?_
  refine .upd (k:=k) klF hi.mF mp286 fun es_1 c_1 hm_1=>?_
  refine .nil (.wb hnp ?_)
  refine .fin ?_
  refine .blockNormal ?_
  exact .back (seen.push m.born,es_1,c_1,kput kF k (lastV kF x.kW k c)) (hi.step hp hm hk hc hm_1) (left_push hm)
theorem bdPlace (a b:Int):BuildOk Tryz.prog 325 [(0,.int .i64 a),(1,.int .i64 b)] #[.int .i64 a,.int .i64 b]:=fun w=>by kernel_rfl
def u64s (l:List Nat):List Value:=l.map fun v=>.int .u64 ((v:Nat):Int)
theorem u64s_get {l:List Nat} {i:Nat} (h:i < l.length):(u64s l)[i]?=some (.int .u64 (l.getD i 0:Nat)):=by
 unfold u64s
 rw [List.getElem?_map,List.getElem?_eq_getElem h,List.getD_eq_getElem?_getD,List.getElem?_eq_getElem h]
 rfl
theorem u64_wrap1 (a:Nat):IntKind.u64.wrap ((a:Int)+1)=(((a+1) % 2 ^ 64:Nat):Int):=by
 have:IntKind.u64.wrap ((a:Int)+1)=((a:Int)+1) % 2 ^ 64:=by simp [IntKind.wrap,IntKind.bits,IntKind.signed]
 rw [this];omega
def laidN (ys:Bytes) (nums:List Nat):Nat->Bytes
 | 0=>ys++List.replicate (512 - ys.length) 0
 | i+1=>put (laidN ys nums i) (8 * (i+1)) 8 false (nums.getD i 0)
def laidB (ys:Bytes) (nums:List Nat):Bytes:=laidN ys nums nums.length
theorem laidN_length {ys:Bytes} (h:ys.length<=512) (nums:List Nat):∀ i,(laidN ys nums i).length=512
 | 0=>by rw [laidN,List.length_append,List.length_replicate];omega
 | i+1=>by rw [laidN,put_length];exact laidN_length h nums i
def slotAt (a b:Nat):Nat:=1+a * 61+b
def magicJ:Bytes:=[66,79,76,76,65,82,68,74]
def markH:Bytes:=[66,79,76,76,65,82,68,72]
theorem bs220_1 (f0:Fn) (u0 c0:Array Value):BuildSOk Tryz.prog 220 1 [(0,.func f0 u0 c0)] 183 #[.func f0 u0 c0]:=fun w=>by kernel_rfl
theorem bs220_2 (f0:Fn) (u0 c0:Array Value) (f1:Fn) (u1 c1:Array Value):BuildSOk Tryz.prog 220 2 [(0,.func f0 u0 c0),(1,.func f1 u1 c1)] 183 #[.func f0 u0 c0,.func f1 u1 c1]:=fun w=>by kernel_rfl
theorem bs220_3 (f0:Fn) (u0 c0:Array Value) (f1:Fn) (u1 c1:Array Value) (f2:Fn) (u2 c2:Array Value):BuildSOk Tryz.prog 220 3 [(0,.func f0 u0 c0),(1,.func f1 u1 c1),(2,.func f2 u2 c2)] 183 #[.func f0 u0 c0,.func f1 u1 c1,.func f2 u2 c2]:=fun w=>by kernel_rfl
theorem bs384_1 (v0:Int):BuildSOk Tryz.prog 384 1 [(0,.int .u64 v0)] 134 #[.int .u64 v0]:=fun w=>by kernel_rfl
theorem bs384_3 (v0:Int) (v1:Int) (v2:Int):BuildSOk Tryz.prog 384 3 [(0,.int .u64 v0),(1,.int .u64 v1),(2,.int .u64 v2)] 134 #[.int .u64 v0,.int .u64 v1,.int .u64 v2]:=fun w=>by kernel_rfl
theorem placeAt {a b:Nat} (h:a<=3/\b<=60):Spec Tryz.prog 219 #[.agg #[.int .i64 (a:Int),.int .i64 (b:Int)]] [] fun F v M=>v=.int .i64 ((slotAt a b:Nat):Int)/\M=F:=by
 refine Spec.intro Tryz.func219 rfl rfl fun B F=>?_
 simp only [Tryz.ntmps219,List.cons_append,List.nil_append,env0,Nat.reduceAdd]
 refine .sr ?_
 refine .box fun b1=>?_
 refine .assign (.x ?_)
 refine .fa ?_ fo325_0
 refine .ld ?_ sc3
 refine .mul ?_
 refine .add ?_
 refine .fa ?_ fo325_1
 refine .ld ?_ sc3
 refine .add ?_
 refine .assign (.z ?_)
 refine .ret (?_)
 exact .ret1 (h1:=.tmp (t:=2) rfl) ⟨_,⟨congrArg (Value.int .i64) (by unfold slotAt;omega),rfl⟩,Am.auto⟩
theorem slotN {a:Nat}:Spec Tryz.prog 217 #[.int .u64 (a:Int)] [] fun F v M=>v=.int .i64 ((a % 4:Nat):Int)/\M=F:=by
 refine Spec.intro Tryz.func217 rfl rfl fun B F=>?_
 simp only [Tryz.ntmps217,List.cons_append,List.nil_append,env0,Nat.reduceAdd]
 refine .sr (.assign (.x (.move ?_)))
 refine .bin (r:=.int .u64 ((a:Int) % 4)) ?_ (run_ints fun w=>by simp [binOp_ints,Op.intDiv,Int.tmod_eq_emod_of_nonneg (Int.natCast_nonneg a)]) rfl rfl rfl
 refine .cvt ?_ un134 un3
 refine .cast (d:=5) (u:=.int .i64 ((a % 4:Nat):Int)) rfl (congrArg (Value.int .i64) (by rw [IntWalk.i64_in _ (by omega)];omega)) ?_
 refine .assign (.z ?_)
 refine .ret (?_)
 exact .ret1 (h1:=.tmp (t:=2) rfl) ⟨_,⟨rfl,rfl⟩,Am.auto⟩
theorem jGet {R:HP} {A:Addr} {n c:Nat} {xs:Bytes} {k:Int} (hR:Reads R (some A) (bvs xs)) (hn:xs.length=n) (hl:n<=1073741824) (hk:0<=k) (hk2:8 * k+8<=n):Spec Tryz.prog 269 #[.slice (some A) n c,.int .i64 k] [R] fun F v M=>v=.int .u64 (beNat (seg xs (8 * k).toNat 8 false):Int)/\M=R :: F:=by
 refine Spec.intro Tryz.func269 rfl rfl fun B F=>?_
 simp only [Tryz.ntmps269,List.cons_append,List.nil_append,env0,Nat.reduceAdd]
 refine .sr (.assign (.x (.move (.move ?_))))
 refine .mul ?_
 refine .call (hc:=Tryz.call143) (sp:=bitsGet hR hn hl (by omega) (by omega) (by omega)) (h:=?_)
 rintro _ _ ⟨rfl,rfl⟩
 refine .move ?_
 refine .extract ?_
 refine .extract ?_
 refine .assign (.assign (.x (.move (.assign (.z ?_)))))
 refine .ret (?_)
 exact .ret1 (h1:=.tmp (t:=4) rfl) ⟨_,⟨rfl,rfl⟩,Am.auto⟩
theorem jLaid {R:HP} {A:Addr} {n c:Nat} {ys:Bytes} {nums:List Nat} (hy:ys.length<=512) (hR:Reads R (some A) (u64s nums)) (hn:nums.length=n) (hl:n<=60) (hv:∀ v∈nums,v < 2 ^ 64):Spec Tryz.prog 262 #[sv ys,.slice (some A) n c] [R] fun F v M=>∃ g q,(v=.slice (some ⟨g,0,none⟩) 512 q/\512<=q/\q<=maxLen)/\M=buf g 5 q (bvs (laidB ys nums)) :: R :: F:=by
 refine Spec.intro Tryz.func262 rfl rfl fun B F=>?_
 simp only [Tryz.ntmps262,List.cons_append,List.nil_append,env0,Nat.reduceAdd]
 obtain ⟨ab,ao,asp⟩:=A
 have hsp:asp=none:=hR.1
 subst hsp
 refine .sr (.assign (.x ?_))
 refine .mkSN 512 z5 so33 (by decide) (by decide) fun b8=>?_
 refine .assign (.x (.move (.move ?_)))
 refine .copyS ys so33 ?_ (hdl:=by rw [List.length_replicate];decide)
 refine .to (r:=.here) (A':=buf b8 5 512 (bvs (laidN ys nums 0))) (fun h hh=>by
  have e1:(List.replicate 512 (Value.int .u8 0)).take 0++(bvs ys).take (min ys.length 512)++(List.replicate 512 (Value.int .u8 0)).drop (0+min ys.length 512)=bvs (laidN ys nums 0):=by
   rw [laidN,bvs_append,bvs_replicate,List.take_zero,List.nil_append,List.drop_replicate,List.take_of_length_le (by rw [bvs_length];omega),show 512 - (0+min ys.length 512)=512 - ys.length from by omega]
  rw [<- e1];exact hh) ?_
 refine .z (.seq (.sr (.move ?_)))
 refine .lenS ?_ sl384
 refine .move (.z (.block ?_))
 refine .loopA (σ:=Int×Nat×Nat) (fun s=>[(5,.slice (some ⟨s.2.1,0,none⟩) 512 s.2.2),(12,.slice (some ⟨ab,ao,none⟩) n c),(13,.int .i64 (n:Int)),(14,.int .i64 s.1)]) (fun s=>buf s.2.1 5 s.2.2 (bvs (laidN ys nums s.1.toNat)) :: R :: F) (fun s=>(0<=s.1/\s.1<=n)/\512<=s.2.2/\s.2.2<=maxLen) (fun s=>((n:Int) - s.1).toNat) (0,b8,512) ⟨by omega,Nat.le_refl 512,(by decide:512<=maxLen)⟩ ?_
 rintro ⟨i,g,q⟩ ⟨hi,hq1,hq2⟩
 refine .sr ?_
 refine .lss ?_
 refine .z (.seq ?_)
 refine .cond rfl (fun hb=>?_) (fun hb=>?_)
 ·have hlt:i < (n:Int):=of_decide_eq_true hb
  have hvv:nums.getD i.toNat 0 < 2 ^ 64:=by
   rw [List.getD_eq_getElem?_getD,List.getElem?_eq_getElem (show i.toNat < nums.length by omega)]
   exact hv _ (List.getElem_mem _)
  refine .skip (.next (.seq (.block (.sr (.move ?_)))))
  refine .idx1 ?_ so384
  refine .ldR ?_ sc134 hR (u64s_get (show i.toNat < nums.length by omega))
  refine .assign (.assign (.y (.move (.move ?_))))
  refine .add ?_
  refine .mul ?_
  refine .move ?_
  refine .call (hc:=Tryz.call74) (sp:=bitsPut (xs:=laidN ys nums i.toNat) Reads.buf (laidN_length hy nums _) (by decide) (by omega) (by omega) (by omega) hvv) (h:=?_)
  rintro _ _ ⟨g',q',⟨rfl,h1,h2⟩,rfl⟩
  refine .move ?_
  refine .extract ?_
  refine .extract ?_
  refine .assign (.nil (.blockNormal (.next (.region ?_))))
  refine .add ?_
  refine .move (.nil ?_)
  refine .to (r:=.here) (A':=buf g' 5 q' (bvs (laidN ys nums (i+1).toNat))) (fun h hh=>by
   rw [show (i+1).toNat=i.toNat+1 from by omega,laidN,show 8 * (i.toNat+1)=(8 * (i+1)).toNat from by omega];exact hh) ?_
  exact .back (i+1,g',q') ⟨by omega,h1,h2⟩ (by show ((n:Int) - (i+1)).toNat < ((n:Int) - i).toNat;omega)
 ·have hge:¬ i < (n:Int):=of_decide_eq_false hb
  have hin:i.toNat=nums.length:=by omega
  refine .exit (.thenExit (.thenExit (.blockExit (?_))))
  refine .next (.sr (.move (.assign (.z ?_))))
  refine .ret (?_)
  refine .to (r:=.here) (A':=buf g 5 q (bvs (laidB ys nums))) (fun h hh=>by unfold laidB;rw [<- hin];exact hh) ?_
  exact .ret1 (h1:=.tmp (t:=4) rfl) ⟨_,⟨g,q,⟨rfl,hq1,hq2⟩,rfl⟩,Am.auto⟩
theorem jFirst {d n t:Nat} {cur:Nat->Bytes} (hn:1<=n):Spec Tryz.prog 215 #[.pointer (some ⟨d,0,none⟩)] [DevR d n cur t] fun F v M=>v=.tuple #[.int .u64 (beNat (seg (cur 0) 8 8 false):Int),.bool (decide ((cur 0).take 8=magicJ))]/\M=DevR d n cur t :: F:=by
 refine Spec.intro Tryz.func215 rfl rfl fun B F=>?_
 simp only [Tryz.ntmps215,List.cons_append,List.nil_append,env0,Nat.reduceAdd]
 refine .sr (.assign (.assign (.x (.move ?_))))
 refine .call (hc:=Tryz.call218) (sp:=devRead (n:=n) (t:=t) (k:=0) (cur:=cur) (by omega)) (h:=?_)
 rintro _ _ ⟨gb,q,rfl,⟨hq1,hq2,hlen⟩,rfl⟩
 refine .move ?_
 refine .extract ?_
 refine .extract ?_
 refine .assign (.assign (.z (.seq ?_)))
 refine .dr ([buf gb 5 q (bvs (cur 0))]) [] 12 mixed .autoJ ?_
 refine .tk 0 rfl .move ?_
 refine .tk 2 rfl .move ?_
 refine .tk 3 rfl .eqi ?_
 refine .on 1 rfl fun hnp=>?_
 refine .call (hc:=Tryz.call269) (sp:=jGet (k:=1) Reads.buf hlen (by decide) (by decide) (by decide)) (h:=?_)
 rintro _ _ ⟨rfl,rfl⟩
 refine .nil (.wa hnp ?_)
 refine .tk 4 rfl .move ?_
 refine .tn 5 rfl .move ?_
 refine .tn 6 rfl (.slcH so33) ?_
 refine .tn 7 rfl (Qt.cvtBS (R:=buf gb 5 q (bvs (cur 0))) (xs:=(cur 0).take 8) by33 st9 (by rw [bvs_take];exact Reads.buf.take 8) (by rw [List.length_take,hlen])) ?_
 refine .tn 8 rfl (Qt.eqS ((cur 0).take 8) magicJ) ?_
 refine .tk 9 rfl .pickT ?_
 refine .tk 10 rfl .assign ?_
 refine .tk 11 rfl .assign ?_
 refine .fin ?_
 refine .next ?_
 refine .ret (?_)
 exact .ret2 (h1:=.tmp (t:=2) rfl) (h2:=.tmp (t:=3) rfl) ⟨_,⟨rfl,rfl⟩,Am.auto⟩
def okV:Value:=.int .i64 0
def Goes (fv:Value) (I J:List HP):Prop:=∃ f us cap,fv=.func (.func f) us cap/\(∀ args w,(callFunc f args).run Tryz.prog w=.ok (.enter f args) w)/\Spec Tryz.prog f (us++cap) I fun F v M=>v=okV/\M=J++F
theorem jTries {R:HP} {A:Addr} {m c:Nat} {fs:List Value} (I:Nat->List HP) (hR:Reads R (some A) fs) (hm:fs.length=m) (hl:m<=1000) (hfs:∀ i (h:i < fs.length),Goes fs[i] (I i) (I (i+1))) :
  Spec Tryz.prog 220 #[.slice (some A) m c] (I 0++[R]) fun F v M=>v=.int .i64 0/\M=I m++(R :: F):=by
 refine Spec.intro Tryz.func220 rfl rfl fun B F=>?_
 simp only [Tryz.ntmps220,List.cons_append,List.nil_append,env0,Nat.reduceAdd]
 obtain ⟨ab,ao,asp⟩:=A
 have hsp:asp=none:=hR.1
 subst hsp
 rw [List.append_assoc]
 simp only [List.cons_append,List.nil_append]
 refine .sr (.assign (.z (.seq (.sr (.move ?_)))))
 refine .lenS ?_ sl220
 refine .move (.z (.block ?_))
 refine .loopA (σ:=Int) (fun i=>[(6,.slice (some ⟨ab,ao,none⟩) m c),(7,.int .i64 (m:Int)),(8,.int .i64 i)]) (fun i=>I i.toNat++(R :: F)) (fun i=>0<=i/\i<=m) (fun i=>((m:Int) - i).toNat) 0 (by omega) ?_
 rintro i hi
 refine .sr ?_
 refine .lss ?_
 refine .z (.seq ?_)
 refine .cond rfl (fun hb=>?_) (fun hb=>?_)
 ·have hlt:i < (m:Int):=of_decide_eq_true hb
  have hil:i.toNat < fs.length:=by omega
  obtain ⟨f,us,cap,hf,hc,hsp⟩:=hfs i.toNat hil
  refine .skip (.next (.seq (.block (.sr ?_))))
  refine .idx1 ?_ so220
  refine .ldR ?_ sc183 hR ((List.getElem?_eq_getElem hil).trans (congrArg some hf)) (hm:=Mem.mid)
  refine .assign (.x (.move ?_))
  refine .callF (vs:=[]) rfl rfl hc (by simpa using hsp) ?_ Tk.app
  rintro _ _ ⟨rfl,rfl⟩
  refine .assign (.x (.move ?_))
  refine .nei ?_
  refine .z ?_
  refine .condF rfl rfl ?_
  refine .skip (.blockNormal (.next (.region ?_)))
  refine .add ?_
  refine .move (.nil ?_)
  exact .back (i+1) (by omega) (by omega) (hI:=by rw [show (i+1).toNat=i.toNat+1 from by omega];exact .refl)
 ·have hge:¬ i < (m:Int):=of_decide_eq_false hb
  have him:i.toNat=m:=by omega
  rw [him]
  refine .exit (.thenExit (.thenExit (.blockExit (?_))))
  refine .next (.sr (.assign (.z ?_)))
  refine .ret (?_)
  exact .ret1 (h1:=.tmp (t:=2) rfl) ⟨_,⟨rfl,rfl⟩,.refl⟩
inductive Chain:List Value->List HP->List HP->Prop
 | nil {I}:Chain [] I I
 | cons {f fs I J K}:Goes f I J->Chain fs J K->Chain (f :: fs) I K
theorem Chain.append {fs gs:List Value} {I J K:List HP} (h:Chain fs I J) (h2:Chain gs J K):Chain (fs++gs) I K:=by
 induction h with
 | nil=>exact h2
 | cons g _ ih=>exact .cons g (ih h2)
theorem Chain.states {fs:List Value} {I K:List HP} (h:Chain fs I K):∃ S:Nat->List HP,S 0=I/\S fs.length=K/\∀ i (hi:i < fs.length),Goes fs[i] (S i) (S (i+1)):=by
 induction h with
 | @nil I=>exact ⟨fun _=>I,rfl,rfl,fun i hi=>by cases hi⟩
 | @cons f fs I J K g _ ih =>
  obtain ⟨S,h0,h1,h2⟩:=ih
  refine ⟨fun i=>if i=0 then I else S (i - 1),rfl,by simpa using h1,fun i hi=>?_⟩
  cases i with
  | zero =>
   simp only [if_true,List.getElem_cons_zero,Nat.zero_add,Nat.succ_ne_zero,if_false,Nat.sub_self,h0]
   exact g
  | succ i =>
   have:=h2 i (by simpa using hi)
   simpa using this
theorem jTriesC {R:HP} {A:Addr} {m c:Nat} {fs:List Value} {I K:List HP} (ch:Chain fs I K) (hR:Reads R (some A) fs) (hm:fs.length=m) (hl:m<=1000) :
  Spec Tryz.prog 220 #[.slice (some A) m c] (I++[R]) fun F v M=>v=.int .i64 0/\M=K++(R :: F):=by
 obtain ⟨S,h0,h1,h2⟩:=ch.states
 have:=jTries (c:=c) S hR hm hl h2
 rw [h0,<-hm,h1] at this
 rw [<- hm]
 exact this
theorem Goes.sub {fv:Value} {I J L M K:List HP} (h:Goes fv I J) (t:Tk L I K:=by repeat (first | exact .nil | (apply Tk.cons;(focus ((repeat (first | exact .here | apply Rem.there));done)))))
  (m:Am (J++K) M:=by repeat (first | exact .refl | exact .nil | (apply Am.take;(focus ((repeat (first | exact .here | apply Rem.there));done))) | refine .skip ?_)):Goes fv L M:=by
 obtain ⟨f,us,cap,hf,hc,hs⟩:=h
 refine ⟨f,us,cap,hf,hc,fun B F w hsat=>?_⟩
 have h1:=hsat.take (Tk.right t)
 rw [<- List.append_assoc] at h1
 have h2:=hs B (K++F) w (by rw [<- List.append_assoc];exact h1)
 refine h2.mono ?_
 rintro e w' ⟨v,M',rfl,⟨rfl,rfl⟩,h3⟩
 refine ⟨_,_,rfl,⟨rfl,rfl⟩,?_⟩
 rw [<- List.append_assoc] at h3
 exact (Am.right m).wk B w' h3
theorem goesFlush {d n t:Nat} {cur:Nat->Bytes}:Goes (.func (.func 222) #[.pointer (some ⟨d,0,none⟩)] #[]) [DevR d n cur t] [DevR d n cur 0]:=⟨_,_,_,rfl,Tryz.call222,devFlush⟩
def boxD (b d:Nat):HP:=pt b (.cells #[.pointer (some ⟨d,0,none⟩)] 22 (0,0))
def cellI (b:Nat) (i:Nat):HP:=pt b (.cells #[.int .i64 (i:Int)] 3 (0,0))
def cellU (b:Nat) (i:Nat):HP:=pt b (.cells #[.int .u64 (i:Int)] 134 (0,0))
theorem jFormat1 {d n t b c i:Nat} {cur:Nat->Bytes} (hi:i<=3) (hn:246<=n) (ht:t<=1000):Spec Tryz.prog 259 #[.pointer (some ⟨b,0,none⟩),.pointer (some ⟨c,0,none⟩)] [boxD b d,cellI c i,DevR d n cur t] fun F v M=>v=okV/\M=[boxD b d,cellI c i,DevR d n (wr cur (slotAt i 0) zeros) (t+1)]++F:=by
 refine Spec.intro Tryz.func259 rfl rfl fun B F=>?_
 simp only [Tryz.ntmps259,List.cons_append,List.nil_append,env0,Nat.reduceAdd]
 simp only [boxD,cellI]
 refine .sr (.assign (.z (.seq ?_)))
 refine .dr ([pt b (.cells #[.pointer (some ⟨d,0,none⟩)] 22 (0,0)),pt c (.cells #[.int .i64 (i:Int)] 3 (0,0))]) [] 7 mixed .autoJ ?_
 refine .tk 0 rfl (.ld sc22) ?_
 refine .tk 1 rfl (.ld sc3) ?_
 refine .tk 2 rfl (.build (bdPlace _ _)) ?_
 refine .tw 3 4 rfl rfl (fun hnp=>?_) (fun hnp=>?_)
 ·refine .call (hc:=Tryz.call219) (sp:=placeAt (a:=i) (b:=0) (by omega)) (h:=?_)
  rintro _ _ ⟨rfl,rfl⟩
  refine .nil (.wa hnp ?_)
  refine .on 4 rfl fun hnp=>?_
  refine .mkSN 512 z5 so33 (by decide) (by decide) fun b7=>?_
  refine .to (r:=.here) (A':=buf b7 5 512 (bvs zeros)) (fun h hh=>by unfold zeros;rw [bvs_replicate];exact hh) ?_
  refine .nil (.wa hnp ?_)
  refine .on 5 rfl fun hnp=>?_
  refine .call (hc:=Tryz.call260) (sp:=devWrite (n:=n) (t:=t) (cur:=cur) (k:=slotAt i 0) Reads.buf zeros_length rfl (by unfold slotAt;omega) (by omega)) (h:=?_)
  rintro _ _ ⟨rfl,rfl⟩
  refine .nil (.wa hnp ?_)
  refine .tk 6 rfl .assign ?_
  refine .fin ?_
  refine .next ?_
  refine .ret (?_)
  exact .ret1 (h1:=.tmp (t:=2) rfl) ⟨_,⟨rfl,rfl⟩,Am.auto⟩
 ·refine .mkSN 512 z5 so33 (by decide) (by decide) fun b7=>?_
  refine .to (r:=.here) (A':=buf b7 5 512 (bvs zeros)) (fun h hh=>by unfold zeros;rw [bvs_replicate];exact hh) ?_
  refine .nil (.wa hnp ?_)
  refine .on 3 rfl fun hnp=>?_
  refine .call (hc:=Tryz.call219) (sp:=placeAt (a:=i) (b:=0) (by omega)) (h:=?_)
  rintro _ _ ⟨rfl,rfl⟩
  refine .nil (.wa hnp ?_)
  refine .on 5 rfl fun hnp=>?_
  refine .call (hc:=Tryz.call260) (sp:=devWrite (n:=n) (t:=t) (cur:=cur) (k:=slotAt i 0) Reads.buf zeros_length rfl (by unfold slotAt;omega) (by omega)) (h:=?_)
  rintro _ _ ⟨rfl,rfl⟩
  refine .nil (.wa hnp ?_)
  refine .tk 6 rfl .assign ?_
  refine .fin ?_
  refine .next ?_
  refine .ret (?_)
  exact .ret1 (h1:=.tmp (t:=2) rfl) ⟨_,⟨rfl,rfl⟩,Am.auto⟩
theorem jFormat2 {d n t b c gen:Nat} {cur:Nat->Bytes} (hn:246<=n) (ht:t<=1000):Spec Tryz.prog 261 #[.pointer (some ⟨b,0,none⟩),.pointer (some ⟨c,0,none⟩)] [boxD b d,cellU c gen,DevR d n cur t] fun F v M=>v=okV/\M=[boxD b d,cellU c gen,DevR d n (wr cur 0 (laidB magicJ [(gen+1) % 2 ^ 64])) (t+1)]++F:=by
 refine Spec.intro Tryz.func261 rfl rfl fun B F=>?_
 simp only [Tryz.ntmps261,List.cons_append,List.nil_append,env0,Nat.reduceAdd]
 simp only [boxD,cellU]
 refine .sr (.assign (.z (.seq ?_)))
 refine .dr ([pt b (.cells #[.pointer (some ⟨d,0,none⟩)] 22 (0,0)),pt c (.cells #[.int .u64 (gen:Int)] 134 (0,0))]) [] 7 mixed .autoJ ?_
 refine .tk 0 rfl (.ld sc22) ?_
 refine .tk 1 rfl (.ld sc134) ?_
 refine .tk 2 rfl ((Qt.addw).eq (v':=.int .u64 (((gen+1) % 2 ^ 64:Nat):Int)) (congrArg (Value.int .u64) (u64_wrap1 gen))) ?_
 refine .on 3 rfl fun hnp=>?_
 refine .buildS (fun b6=>?_) (bs384_1 _)
 refine .nil (.wa hnp ?_)
 refine .on 4 rfl fun hnp=>?_
 refine .call (hc:=Tryz.call262) (sp:=jLaid (ys:=magicJ) (nums:=[(gen+1) % 2 ^ 64]) (by decide) Reads.pt rfl (Nat.le_of_ble_eq_true rfl) (by intro v hv;rw [List.mem_singleton] at hv;subst hv;exact Nat.mod_lt _ (by decide))) (h:=?_)
 rintro _ _ ⟨gl,ql,⟨rfl,hl1,hl2⟩,rfl⟩
 refine .nil (.wa hnp ?_)
 refine .on 5 rfl fun hnp=>?_
 refine .call (hc:=Tryz.call260) (sp:=devWrite (n:=n) (t:=t) (cur:=cur) (k:=0) Reads.buf (laidN_length (ys:=magicJ) (by decide) _ _) rfl (by omega) (by omega)) (h:=?_)
 rintro _ _ ⟨rfl,rfl⟩
 refine .nil (.wa hnp ?_)
 refine .tk 6 rfl .assign ?_
 refine .fin ?_
 refine .next ?_
 refine .ret (?_)
 exact .ret1 (h1:=.tmp (t:=2) rfl) ⟨_,⟨rfl,rfl⟩,Am.auto⟩
def clearH (cur:Nat->Bytes):Nat->Nat->Bytes
 | 0=>cur
 | i+1=>wr (clearH cur i) (slotAt i 0) zeros
def formatted (cur:Nat->Bytes):Nat->Bytes:=wr (if (cur 0).take 8=magicJ then cur else clearH cur 4) 0 (laidB magicJ [(beNat (seg (cur 0) 8 8 false)+1) % 2 ^ 64])
def fmt1V (b c:Nat):Value:=.func (.func 259) #[] #[.pointer (some ⟨b,0,none⟩),.pointer (some ⟨c,0,none⟩)]
def fmt2V (b c:Nat):Value:=.func (.func 261) #[] #[.pointer (some ⟨b,0,none⟩),.pointer (some ⟨c,0,none⟩)]
theorem goesFmt1 {d n t b c:Nat} {cur:Nat->Bytes} (i:Nat) (hi:i<=3) (hn:246<=n) (ht:t<=1000):Goes (fmt1V b c) [boxD b d,cellI c i,DevR d n cur t] [boxD b d,cellI c i,DevR d n (wr cur (slotAt i 0) zeros) (t+1)]:=⟨_,_,_,rfl,Tryz.call259,jFormat1 hi hn ht⟩
theorem goesFmt2 {d n t b c gen:Nat} {cur:Nat->Bytes} (hn:246<=n) (ht:t<=1000):Goes (fmt2V b c) [boxD b d,cellU c gen,DevR d n cur t] [boxD b d,cellU c gen,DevR d n (wr cur 0 (laidB magicJ [(gen+1) % 2 ^ 64])) (t+1)]:=⟨_,_,_,rfl,Tryz.call261,jFormat2 hn ht⟩
theorem jFormat {d n t:Nat} {cur:Nat->Bytes} (hn:246<=n) (ht:t<=100):Spec Tryz.prog 200 #[.pointer (some ⟨d,0,none⟩)] [DevR d n cur t] fun F v M=>v=.int .i64 0/\M=DevR d n (formatted cur) 0 :: F:=by
 refine Spec.intro Tryz.func200 rfl rfl fun B F=>?_
 simp only [Tryz.ntmps200,List.cons_append,List.nil_append,env0,Nat.reduceAdd]
 refine .sr ?_
 refine .box fun b1=>?_
 refine .assign (.z (.seq (.sr ?_)))
 refine .ld ?_ sc22
 refine .call (hc:=Tryz.call130) (sp:=devBlocksR (n:=n) (t:=t) (cur:=cur)) (h:=?_)
 rintro _ _ ⟨rfl,rfl⟩
 refine .lss ?_
 refine .z ?_
 refine .condF rfl (congrArg Value.bool (by first|simp;done|simp;omega|omega)) ?_
 refine .skip (.next (.sr ?_))
 refine .ld ?_ sc22
 refine .call (hc:=Tryz.call215) (sp:=jFirst (n:=n) (t:=t) (cur:=cur) (by omega)) (h:=?_)
 rintro _ _ ⟨rfl,rfl⟩
 refine .move ?_
 refine .extract ?_
 refine .extract ?_
 refine .alloc z134 fun b3=>?_
 refine .st ?_ sc134
 refine .assign (.x (.assign ?_))
 refine .emp (rowR.nil (e:=183) (size:=1) _) ?_
 refine .z (.seq (.sr (.move ?_)))
 refine .not ?_
 refine .z ?_
 refine .cond rfl (fun hb=>?_) (fun hb=>?_)
 ·have hno:¬ (cur 0).take 8=magicJ:=by simpa using hb
  refine .sr (.move (.z (.block ?_)))
  refine .loopN 5 (RC.succ ?_)
  refine .sr ?_
  refine .lss ?_
  refine .z (.seq ?_)
  refine .condT rfl rfl ?_
  refine .skip (.next (.seq (.block (.sr (.move ?_)))))
  refine .alloc z3 fun b6_0=>?_
  refine .st ?_ sc3
  refine .y (.move ?_)
  refine .makeFuncB ?_
  refine .buildS (fun b22=>?_) (bs220_1 _ _ _)
  refine .append (m:=1) so220 (by decide) (by repeat (first | exact .here | apply Rem.there | apply Repl.there | apply Mem.there)) Reads.pt (by repeat (first | exact .here | apply Rem.there | apply Repl.there | apply Mem.there)) rfl (by simp [Value.single]) (by decide) (by decide) ⟨_,z183,rfl⟩ (fun v_0 hv_0=>?_)
  refine .assign (.nil (.blockNormal (.next (.region ?_))))
  refine .add ?_
  refine .move (.nil ?_)
  refine .again (RC.succ ?_)
  refine .sr ?_
  refine .lss ?_
  refine .z (.seq ?_)
  refine .condT rfl rfl ?_
  refine .skip (.next (.seq (.block (.sr (.move ?_)))))
  refine .alloc z3 fun b6_1=>?_
  refine .st ?_ sc3
  refine .y (.move ?_)
  refine .makeFuncB ?_
  refine .buildS (fun b22=>?_) (bs220_1 _ _ _)
  refine .append (m:=1) so220 (by decide) (by repeat (first | exact .here | apply Rem.there | apply Repl.there | apply Mem.there)) Reads.pt (by repeat (first | exact .here | apply Rem.there | apply Repl.there | apply Mem.there)) rfl (by simp [Value.single]) (by decide) (by decide) ⟨_,z183,rfl⟩ (fun v_1 hv_1=>?_)
  refine .assign (.nil (.blockNormal (.next (.region ?_))))
  refine .add ?_
  refine .move (.nil ?_)
  refine .again (RC.succ ?_)
  refine .sr ?_
  refine .lss ?_
  refine .z (.seq ?_)
  refine .condT rfl rfl ?_
  refine .skip (.next (.seq (.block (.sr (.move ?_)))))
  refine .alloc z3 fun b6_2=>?_
  refine .st ?_ sc3
  refine .y (.move ?_)
  refine .makeFuncB ?_
  refine .buildS (fun b22=>?_) (bs220_1 _ _ _)
  refine .append (m:=1) so220 (by decide) (by repeat (first | exact .here | apply Rem.there | apply Repl.there | apply Mem.there)) Reads.pt (by repeat (first | exact .here | apply Rem.there | apply Repl.there | apply Mem.there)) rfl (by simp [Value.single]) (by decide) (by decide) ⟨_,z183,rfl⟩ (fun v_2 hv_2=>?_)
  refine .assign (.nil (.blockNormal (.next (.region ?_))))
  refine .add ?_
  refine .move (.nil ?_)
  refine .again (RC.succ ?_)
  refine .sr ?_
  refine .lss ?_
  refine .z (.seq ?_)
  refine .condT rfl rfl ?_
  refine .skip (.next (.seq (.block (.sr (.move ?_)))))
  refine .alloc z3 fun b6_3=>?_
  refine .st ?_ sc3
  refine .y (.move ?_)
  refine .makeFuncB ?_
  refine .buildS (fun b22=>?_) (bs220_1 _ _ _)
  refine .append (m:=1) so220 (by decide) (by repeat (first | exact .here | apply Rem.there | apply Repl.there | apply Mem.there)) Reads.pt (by repeat (first | exact .here | apply Rem.there | apply Repl.there | apply Mem.there)) rfl (by simp [Value.single]) (by decide) (by decide) ⟨_,z183,rfl⟩ (fun v_3 hv_3=>?_)
  refine .assign (.nil (.blockNormal (.next (.region ?_))))
  refine .add ?_
  refine .move (.nil ?_)
  refine .again (RC.succ ?_)
  refine .sr ?_
  refine .lss ?_
  refine .z (.seq ?_)
  refine .condF rfl rfl ?_
  refine .exit (.thenExit (.thenExit (.blockExit (?_))))
  refine .next (.sr (.move ?_))
  refine .ld ?_ sc22
  refine .makeFuncB ?_
  refine .makeFuncB ?_
  refine .ld ?_ sc22
  refine .makeFuncB ?_
  refine .buildS (fun b31=>?_) (bs220_3 _ _ _ _ _ _ _ _ _)
  refine .append (m:=3) so220 (by decide) (by repeat (first | exact .here | apply Rem.there | apply Repl.there | apply Mem.there)) Reads.pt (by repeat (first | exact .here | apply Rem.there | apply Repl.there | apply Mem.there)) rfl (by simp [Value.single]) (by decide) (by decide) ⟨_,z183,rfl⟩ (fun vT hvT=>?_)
  refine .rowOpen (v:=vT) fun A c hv hR hc1 hc2=>?_
  subst hv
  refine .call (hc:=Tryz.call220) (sp:=jTriesC ((.cons (I:=[boxD b1 d,cellI b6_0 0,cellI b6_1 1,cellI b6_2 2,cellI b6_3 3,cellU b3 (beNat (seg (cur 0) 8 8 false)),DevR d n cur t]) (goesFmt1 (d:=d) (n:=n) (t:=t+0) (cur:=clearH cur 0) 0 (by decide) hn (by omega)).sub (.cons (goesFmt1 (d:=d) (n:=n) (t:=t+1) (cur:=clearH cur 1) 1 (by decide) hn (by omega)).sub (.cons (goesFmt1 (d:=d) (n:=n) (t:=t+2) (cur:=clearH cur 2) 2 (by decide) hn (by omega)).sub (.cons (goesFmt1 (d:=d) (n:=n) (t:=t+3) (cur:=clearH cur 3) 3 (by decide) hn (by omega)).sub (.cons (goesFlush (d:=d) (n:=n) (t:=t+4) (cur:=(clearH cur 4))).sub (.cons (goesFmt2 (d:=d) (n:=n) (t:=0) (cur:=(clearH cur 4)) (gen:=beNat (seg (cur 0) 8 8 false)) hn (by decide)).sub (.cons goesFlush.sub .nil)))))))) hR rfl (Nat.le_of_ble_eq_true rfl)) (h:=?_)
  rintro _ _ ⟨rfl,rfl⟩
  simp only [List.cons_append,List.nil_append]
  refine .assign (.z ?_)
  refine .ret (?_)
  have hfin:formatted cur=wr (clearH cur 4) 0 (laidB magicJ [(beNat (seg (cur 0) 8 8 false)+1) % 2 ^ 64]):=by unfold formatted;rw [if_neg hno]
  rw [hfin]
  exact .ret1 (h1:=.tmp (t:=2) rfl) ⟨_,⟨rfl,rfl⟩,Am.auto⟩
 ·have hyes:(cur 0).take 8=magicJ:=by simpa using hb
  refine .skip (.next (.sr (.move ?_)))
  refine .ld ?_ sc22
  refine .makeFuncB ?_
  refine .makeFuncB ?_
  refine .ld ?_ sc22
  refine .makeFuncB ?_
  refine .buildS (fun b31=>?_) (bs220_3 _ _ _ _ _ _ _ _ _)
  refine .append (m:=3) so220 (by decide) (by repeat (first | exact .here | apply Rem.there | apply Repl.there | apply Mem.there)) Reads.pt (by repeat (first | exact .here | apply Rem.there | apply Repl.there | apply Mem.there)) rfl (by simp [Value.single]) (by decide) (by decide) ⟨_,z183,rfl⟩ (fun vT hvT=>?_)
  refine .rowOpen (v:=vT) fun A c hv hR hc1 hc2=>?_
  subst hv
  refine .call (hc:=Tryz.call220) (sp:=jTriesC ((.cons (I:=[boxD b1 d,cellU b3 (beNat (seg (cur 0) 8 8 false)),DevR d n cur t]) (goesFlush (d:=d) (n:=n) (t:=t) (cur:=cur)).sub (.cons (goesFmt2 (d:=d) (n:=n) (t:=0) (cur:=cur) (gen:=beNat (seg (cur 0) 8 8 false)) hn (by decide)).sub (.cons goesFlush.sub .nil)))) hR rfl (Nat.le_of_ble_eq_true rfl)) (h:=?_)
  rintro _ _ ⟨rfl,rfl⟩
  simp only [List.cons_append,List.nil_append]
  refine .assign (.z ?_)
  refine .ret (?_)
  have hfin:formatted cur=wr cur 0 (laidB magicJ [(beNat (seg (cur 0) 8 8 false)+1) % 2 ^ 64]):=by unfold formatted;rw [if_pos hyes]
  rw [hfin]
  exact .ret1 (h1:=.tmp (t:=2) rfl) ⟨_,⟨rfl,rfl⟩,Am.auto⟩
theorem klP:KeyLaw Tryz.prog 325 pairE:=structKeys (fun k:Int×Int=>[k.1,k.2]) (n:=2) (by kernel_rfl) (fun _=>rfl) (fun a b h=>by
 obtain ⟨a1,a2⟩:=a
 obtain ⟨b1,b2⟩:=b
 simp only [List.cons.injEq,and_true] at h
 rw [h.1,h.2])
def jO (d gen last:Nat) (ov:Value) (mp:Nat):Obj:=.cells #[.pointer (some ⟨d,0,none⟩),.int .u64 (gen:Int),.int .u64 (last:Int),.bool false,ov,.map (some mp)] 320 (0,0)
def lay (cur:Nat->Bytes) (l:List (Nat×Bytes)):Nat->Bytes:=l.foldl (fun c p=>wr c p.1 p.2) cur
theorem lay_snoc (cur:Nat->Bytes) (l:List (Nat×Bytes)) (p:Nat×Bytes):lay cur (l++[p])=wr (lay cur l) p.1 p.2:=by simp [lay]
theorem lay_take (cur:Nat->Bytes) (l:List (Nat×Bytes)) (i:Nat) (h:i < l.length):lay cur (l.take (i+1))=wr (lay cur (l.take i)) l[i].1 l[i].2:=by
 rw [List.take_succ_eq_append_getElem h,lay_snoc]
def blocksV (l:List (Nat×Bytes)):List Value:=ints (l.map fun p=>(p.1:Int))
theorem blocksV_length (l:List (Nat×Bytes)):(blocksV l).length=l.length:=by simp [blocksV,ints]
theorem blocksV_get (l:List (Nat×Bytes)) (i:Nat) (h:i < l.length):(blocksV l)[i]?=some (.int .i64 (l[i].1:Int)):=by simp [blocksV,ints,h]
def Kept (kv:List ((Int×Int)×Value)) (bl:List (Value×Bytes)) (s:Nat) (l:List (Nat×Bytes)):Prop :=
 ∀ i (h:i < l.length),∃ v,kget kv ((s:Int),(i:Int))=some v/\(v,l[i].2)∈bl
structure Fit (n:Nat) (l:List (Nat×Bytes)):Prop where
 home:∀ p∈l,245<=p.1/\p.1 < n/\p.2.length=512
 few:l.length<=60
 apart:(l.map (·.1)).Nodup
theorem ints_get {xs:List Int} {i:Nat} (h:i < xs.length):(ints xs)[i]?=some (.int .i64 xs[i]):=by simp [ints,h]
theorem idxOf_of {xs:List Int} {k:Int} {i:Nat} (hi:i < xs.length) (hk:xs[i]=k) (hb:∀ j:Nat,j < i->xs[j]?≠some k):xs.idxOf k=i:=by
 induction xs generalizing i with
 | nil=>simp at hi
 | cons x xs ih =>
  cases i with
  | zero=>simp at hk;subst hk;simp
  | succ i =>
   have hx:x≠k:=fun h=>hb 0 (by omega) (by simp [h])
   rw [List.idxOf_cons,show (x==k)=false from by simpa using hx,cond_false,ih (by simpa using hi) (by simpa using hk) (fun j hj=>by have:=hb (j+1) (by omega);simpa using this)]
theorem intsIndex {R:HP} {A:Option Addr} {m c:Nat} {xs:List Int} {k:Int} (hR:Reads R A (ints xs)) (hm:xs.length=m) (hl:m<=1073741824):Spec Tryz.prog 224 #[.slice A m c,.int .i64 k] [R] fun F v M=>v=.int .i64 (if k∈xs then (xs.idxOf k:Int) else -1)/\M=R :: F:=by
 refine Spec.intro Tryz.func224 rfl rfl fun B F=>?_
 simp only [Tryz.ntmps224,List.cons_append,List.nil_append,env0,Nat.reduceAdd]
 refine .sr (.assign (.z (.seq (.sr (.move ?_)))))
 refine .lenS ?_ sl80
 refine .move (.z (.block ?_))
 refine .loopA (σ:=Int) (fun i=>[(0,.slice A m c),(1,.int .i64 k),(7,.int .i64 (m:Int)),(8,.int .i64 i)]) (fun _=>R :: F) (fun i=>(0<=i/\i<=m)/\∀ j:Nat,j < i.toNat->xs[j]?≠some k) (fun i=>((m:Int) - i).toNat) 0 ⟨by omega,fun j hj=>by omega⟩ ?_
 rintro i hp
 refine .sr ?_
 refine .lss ?_
 refine .z (.seq ?_)
 refine .cond rfl (fun hb=>?_) (fun hb=>?_)
 ·have hlt:i < (m:Int):=of_decide_eq_true hb
  have hil:i.toNat < xs.length:=by omega
  rcases A with _ | ⟨ab,ao,asp⟩
  ·exact absurd hR (fun h=>by have h2:ints xs=[]:=h;simp [ints] at h2;subst h2;simp at hil)
  have hsp:asp=none:=hR.1
  subst hsp
  refine .skip (.next (.seq (.block (.sr (.move (.assign (.x (.move (.move ?_)))))))))
  refine .move ?_
  refine .idx1 ?_ so80
  refine .ldR ?_ sc3 hR (ints_get hil)
  refine .eqi ?_
  refine .z ?_
  refine .cond rfl (fun hb2=>?_) (fun hb2=>?_)
  ·have hk:k=xs[i.toNat]:=of_decide_eq_true hb2
   refine .sr (.move (.assign (.z ?_)))
   refine .ret (.blockRet (.thenRet (.thenRet (.blockRet (.thenRet (?_))))))
   have hmem:k∈xs:=hk ▸ List.getElem_mem hil
   have hidx:xs.idxOf k=i.toNat:=idxOf_of hil hk.symm (fun j hj=>hp.2 j hj)
   exact .ret1 (h1:=.tmp (t:=4) rfl) ⟨_,⟨by rw [if_pos hmem,hidx];exact congrArg (Value.int .i64) (by omega),rfl⟩,Am.auto⟩
  ·have hk:¬ k=xs[i.toNat]:=of_decide_eq_false hb2
   refine .skip (.blockNormal (.next (.region ?_)))
   refine .add ?_
   refine .move (.nil ?_)
   exact .back (i+1) ⟨by omega,fun j hj h=>if hji:j < i.toNat then hp.2 j hji h else by rw [show xs[j]?=xs[i.toNat]? from by rw [show j=i.toNat from by omega]] at h;rw [List.getElem?_eq_getElem hil] at h;exact hk (Option.some.inj h).symm⟩ (by omega)
 ·have hge:¬ i < (m:Int):=of_decide_eq_false hb
  refine .exit (.thenExit (.thenExit (.blockExit (?_))))
  refine .next (.sr (.assign (.z ?_)))
  refine .ret (?_)
  have hno:¬ k∈xs:=fun h=>by obtain ⟨j,hj,hjk⟩:=List.mem_iff_getElem.1 h;exact hp.2 j (by omega) (by rw [List.getElem?_eq_getElem hj,hjk])
  exact .ret1 (h1:=.tmp (t:=4) rfl) ⟨_,⟨by rw [if_neg hno],rfl⟩,Am.auto⟩
theorem jHome {j d n t gen last mp:Nat} {ov:Value} {cur:Nat->Bytes} {k:Int}:Spec Tryz.prog 223 #[.pointer (some ⟨j,0,none⟩),.int .i64 k] [pt j (jO d gen last ov mp),DevR d n cur t] fun F v M=>v=.bool (decide (245<=k/\k < n))/\M=pt j (jO d gen last ov mp) :: DevR d n cur t :: F:=by
 refine Spec.intro Tryz.func223 rfl rfl fun B F=>?_
 simp only [Tryz.ntmps223,List.cons_append,List.nil_append,env0,Nat.reduceAdd]
 by_cases h5:245<=k
 ·refine .sr (.assign (.x (.move ?_)))
  refine .neNil ?_ ptr215
  refine .move ?_
  refine .gT ?_
  refine .move ?_
  refine .gT ?_
  refine .geq ?_
  refine .pickT ?_
  refine .move ?_
  refine .cast (d:=11) (u:=.bool true) rfl (congrArg Value.bool (by first|simp;done|simp;omega|omega)) ?_
  refine .gT ?_
  refine .move ?_
  refine .gT ?_
  refine .move ?_
  refine .gT ?_
  refine .nilCheck ?_
  refine .gT ?_
  refine .fa ?_ fo320_0
  refine .gT ?_
  refine .ld ?_ sc22
  refine .gT ?_
  refine .call (hc:=Tryz.call130) (sp:=devBlocksR (n:=n) (t:=t) (cur:=cur)) (h:=?_)
  rintro _ _ ⟨rfl,rfl⟩
  refine .gT ?_
  refine .lss ?_
  refine .pickT ?_
  refine .assign (.z ?_)
  refine .ret (?_)
  exact .ret1 (h1:=.tmp (t:=4) rfl) ⟨_,⟨congrArg Value.bool (by simp [h5]),rfl⟩,Am.auto⟩
 ·refine .sr (.assign (.x (.move ?_)))
  refine .neNil ?_ ptr215
  refine .move ?_
  refine .gT ?_
  refine .move ?_
  refine .gT ?_
  refine .geq ?_
  refine .pickT ?_
  refine .move ?_
  refine .cast (d:=11) (u:=.bool false) rfl (congrArg Value.bool (by first|simp;done|simp;omega|omega)) ?_
  refine .gF ?_
  refine .gF ?_
  refine .gF ?_
  refine .gF ?_
  refine .gF ?_
  refine .gF ?_
  refine .gF ?_
  refine .pickF ?_
  refine .assign (.z ?_)
  refine .ret (?_)
  exact .ret1 (h1:=.tmp (t:=4) rfl) ⟨_,⟨congrArg Value.bool (by simp [h5]),rfl⟩,Am.auto⟩
theorem jSettle {j d n t gen last mp c:Nat} {ov:Value} {es:Array MapEntry} {kv:List ((Int×Int)×Value)} {bl:List (Value×Bytes)} {ch:List (Nat×Bytes)} {cur:Nat->Bytes} (hm:MapIs pairE es c kv) (hk:Kept kv bl (last % 4) ch) (hf:Fit n ch) (ht:t<=1000) :
  Spec Tryz.prog 221 #[.pointer (some ⟨j,0,none⟩)] [pt j (jO d gen last ov mp),rowR 3 1 ov ch.length (blocksV ch),pt mp (.map es c),blobs bl,DevR d n cur t] fun F v M=>v=okV/\M=[pt j (jO d gen last ov mp),rowR 3 1 ov ch.length (blocksV ch),pt mp (.map es c),blobs bl,DevR d n (lay cur ch) (t+ch.length)]++F:=by
 refine Spec.intro Tryz.func221 rfl rfl fun B F=>?_
 simp only [Tryz.ntmps221,List.cons_append,List.nil_append,env0,Nat.reduceAdd]
 refine .fact (rowR_shape (el:=3) (size:=1) (v:=ov) (k:=ch.length) (xs:=blocksV ch)) (fun ⟨A,cc,hov,hR,hc1,hc2,hlen⟩=>?_)
 subst hov
 have hfew:=hf.few
 refine .sr (.assign (.z (.seq (.sr (.move ?_)))))
 refine .nilCheck ?_
 refine .fa ?_ fo320_4
 refine .ld ?_ sc80
 refine .lenS ?_ sl80
 refine .move (.z (.block ?_))
 refine .loopA (σ:=Int) (fun i=>[(0,.pointer (some ⟨j,0,none⟩)),(9,.slice A ch.length cc),(10,.int .i64 (ch.length:Int)),(11,.int .i64 i)]) (fun i=>[pt j (jO d gen last (.slice A ch.length cc) mp),rowR 3 1 (.slice A ch.length cc) ch.length (blocksV ch),pt mp (.map es c),blobs bl,DevR d n (lay cur (ch.take i.toNat)) (t+i.toNat)]++F) (fun i=>0<=i/\i<=ch.length) (fun i=>((ch.length:Int) - i).toNat) 0 (by omega) ?_
 rintro i hi
 refine .sr ?_
 refine .lss ?_
 refine .z (.seq ?_)
 refine .cond rfl (fun hb=>?_) (fun hb=>?_)
 ·have hlt:i < (ch.length:Int):=of_decide_eq_true hb
  have hil:i.toNat < ch.length:=by omega
  have hbl:=blocksV_length ch
  rcases A with _ | ⟨ab,ao,asp⟩
  ·exact absurd hR (fun h=>by have h2:blocksV ch=[]:=h;rw [h2] at hbl;simp at hbl;omega)
  have hsp:asp=none:=hR.1
  subst hsp
  obtain ⟨v,hv,hvb⟩:=hk i.toNat hil
  have hhome:=hf.home _ (List.getElem_mem hil)
  rw [show ((i.toNat:Nat):Int)=i from by omega] at hv
  refine .skip (.next (.seq (.block (.sr (.move ?_)))))
  refine .idx1 ?_ so80
  refine .ldR ?_ sc3 hR (blocksV_get ch i.toNat hil)
  refine .assign (.assign (.z (.seq ?_)))
  refine .fact (blobs_shape hvb) fun ⟨gb,cb,hvs,hcb⟩=>?_
  subst hvs
  refine .dr ([pt j (jO d gen last (.slice (some ⟨ab,ao,none⟩) ch.length cc) mp),pt mp (.map es c)]) [] 19 mixed .autoJ ?_
  refine .tk 0 rfl .move ?_
  refine .tk 1 rfl .nilCheck ?_
  refine .tk 2 rfl (.fa fo320_0) ?_
  refine .tk 3 rfl (.ld sc22) ?_
  refine .tk 4 rfl .move ?_
  refine .tk 5 rfl .move ?_
  refine .tk 6 rfl .nilCheck ?_
  refine .tk 7 rfl (.fa fo320_5) ?_
  refine .tk 8 rfl (.ld sc318) ?_
  refine .tk 9 rfl .move ?_
  refine .tk 10 rfl .nilCheck ?_
  refine .tk 11 rfl (.fa fo320_2) ?_
  refine .tk 12 rfl (.ld sc134) ?_
  refine .tk 14 rfl .move ?_
  refine .on 13 rfl fun hnp=>?_
  refine .call (hc:=Tryz.call217) (sp:=slotN) (h:=?_)
  rintro _ _ ⟨rfl,rfl⟩
  refine .nil (.wa hnp ?_)
  refine .tk 15 rfl (.build (bdPlace _ _)) ?_
  refine .tk 16 rfl ((Qt.look (k:=(((last % 4:Nat):Int),i)) klP hm mp318 zv33).eq (v':=.slice (some ⟨gb,0,none⟩) ch[i.toNat].2.length cb) (by rw [hv];rfl)) ?_
  refine .on 17 rfl fun hnp=>?_
  refine .call (hc:=Tryz.call260) (sp:=devWrite (n:=n) (t:=t+i.toNat) (cur:=lay cur (ch.take i.toNat)) (k:=ch[i.toNat].1) (Reads.blob hvb) rfl hhome.2.2 hhome.2.1 (by omega)) (h:=?_)
  rintro _ _ ⟨rfl,rfl⟩
  refine .nil (.wa hnp ?_)
  refine .tk 18 rfl .assign ?_
  refine .fin ?_
  rw [<- lay_take cur ch i.toNat hil]
  refine .next (.sr (.move ?_))
  refine .nei ?_
  refine .z ?_
  refine .condF rfl rfl ?_
  refine .skip (.blockNormal (.next (.region ?_)))
  refine .add ?_
  refine .move (.nil ?_)
  exact .back (i+1) (by omega) (by omega) (hI:=by rw [show (i+1).toNat=i.toNat+1 from by omega];exact Am.auto)
 ·have hge:¬ i < (ch.length:Int):=of_decide_eq_false hb
  have hin:i.toNat=ch.length:=by omega
  rw [hin,List.take_length]
  refine .exit (.thenExit (.thenExit (.blockExit (?_))))
  refine .next (.sr (.assign (.z ?_)))
  refine .ret (?_)
  exact .ret1 (h1:=.tmp (t:=2) rfl) ⟨_,⟨rfl,rfl⟩,Am.auto⟩
structure JS where
 gen:Nat
 last:Nat
 ch:List (Nat×Bytes)
 cur:Nat->Bytes
def JS.view (J:JS) (k:Nat):Bytes:=(kget J.ch k).getD (J.cur k)
structure JX where
 es:Array MapEntry
 c:Nat
 mp:Nat
 kv:List ((Int×Int)×Value)
 bl:List (Value×Bytes)
 ov:Value
structure JP (n:Nat) (J:JS) (x:JX):Prop where
 hm:MapIs pairE x.es x.c x.kv
 hk:Kept x.kv x.bl (J.last % 4) J.ch
 hf:Fit n J.ch
 n1:246<=n
 n2:n<=65536
 hg:J.gen < 2 ^ 64
 hl:J.last < 2 ^ 64
def jL (j d n:Nat) (J:JS) (x:JX):List HP:=[pt j (jO d J.gen J.last x.ov x.mp),rowR 3 1 x.ov J.ch.length (blocksV J.ch),pt x.mp (.map x.es x.c),blobs x.bl,DevR d n J.cur 0]
def JR (j d n:Nat) (J:JS):HP:=fun h=>∃ x,JP n J x/\star (jL j d n J x) h
theorem JR.opens (j d n:Nat) (J:JS):Opens (JR j d n J) (JP n J) (jL j d n J):=⟨fun h hh=>hh,fun x hp h hh=>⟨x,hp,hh⟩⟩
attribute [irreducible] JR
theorem idx_cases (l:List (Nat×Bytes)) (k:Nat):(∃ i,∃ h:i < l.length,l[i].1=k/\(if (k:Int)∈l.map (fun p=>(p.1:Int)) then (((l.map fun p=>(p.1:Int)).idxOf (k:Int):Nat):Int) else -1)=(i:Int)) ∨
  ((if (k:Int)∈l.map (fun p=>(p.1:Int)) then (((l.map fun p=>(p.1:Int)).idxOf (k:Int):Nat):Int) else -1)=-1/\kget l k=none):=by
 by_cases h:(k:Int)∈l.map (fun p=>(p.1:Int))
 ·left
  have h1:=List.idxOf_lt_length_of_mem h
  have h2:(l.map fun p=>(p.1:Int))[(l.map fun p=>(p.1:Int)).idxOf (k:Int)]=(k:Int):=List.getElem_idxOf h1
  refine ⟨(l.map fun p=>(p.1:Int)).idxOf (k:Int),by simpa using h1,?_,by rw [if_pos h]⟩
  rw [List.getElem_map] at h2
  omega
 ·right
  refine ⟨by rw [if_neg h],kget_none.2 fun hk=>h ?_⟩
  obtain ⟨p,hp,rfl⟩:=List.mem_map.1 hk
  exact List.mem_map.2 ⟨p,hp,rfl⟩
theorem Fit.get {n:Nat} {l:List (Nat×Bytes)} (h:Fit n l) {i:Nat} (hi:i < l.length) {k:Nat} (hk:l[i].1=k):kget l k=some l[i].2:=by
 subst hk
 exact (kget_mem h.apart).2 (List.getElem_mem hi)
theorem jRead {j d n k:Nat} {J:JS} (h5:245<=k) (hkn:k < n):Spec Tryz.prog 141 #[.pointer (some ⟨j,0,none⟩),.int .i64 (k:Int)] [JR j d n J] fun F v M=>∃ g q,v=.tuple #[.slice (some ⟨g,0,none⟩) 512 q,.int .i64 0]/\(512<=q/\q<=maxLen/\(J.view k).length=512)/\M=buf g 5 q (bvs (J.view k)) :: JR j d n J :: F:=by
 refine Spec.intro Tryz.func141 rfl rfl fun B F=>?_
 simp only [Tryz.ntmps141,List.cons_append,List.nil_append,env0,Nat.reduceAdd]
 refine .openR (JR.opens j d n J) fun x hp=>?_
 simp only [jL,List.cons_append,List.nil_append]
 refine .fact (rowR_shape (el:=3) (size:=1) (v:=x.ov) (k:=J.ch.length) (xs:=blocksV J.ch)) (fun ⟨A,cc,hov,hR,hc1,hc2,hlen⟩=>?_)
 have hfew:=hp.hf.few
 refine .sr (.assign (.assign (.z (.seq (.sr (.move (.move ?_)))))))
 refine .call (hc:=Tryz.call223) (sp:=jHome (n:=n) (t:=0) (cur:=J.cur)) (h:=?_)
 rintro _ _ ⟨rfl,rfl⟩
 refine .cast (d:=9) (u:=.bool true) rfl (congrArg Value.bool (decide_eq_true (by omega))) ?_
 refine .not ?_
 refine .z ?_
 refine .condF rfl rfl ?_
 refine .skip (.next (.seq (.sr (.move ?_))))
 refine .nilCheck ?_
 refine .fa ?_ fo320_4
 refine .ld ?_ sc80
 refine .cast (d:=14) rfl hov ?_
 refine .move ?_
 refine .call (hc:=Tryz.call224) (sp:=intsIndex (xs:=J.ch.map fun p=>(p.1:Int)) hR (List.length_map ..) (by omega)) (h:=?_)
 rintro _ _ ⟨rfl,rfl⟩
 refine .assign (.x (.move ?_))
 refine .geq ?_
 refine .z ?_
 rcases idx_cases J.ch k with ⟨i,hi,hik,hidx⟩ | ⟨hidx,hno⟩
 ·obtain ⟨v,hv,hvb⟩:=hp.hk i hi
  have hhome:=hp.hf.home _ (List.getElem_mem hi)
  have hview:J.view k=J.ch[i].2:=by unfold JS.view;rw [hp.hf.get hi hik];rfl
  have hl5:(J.view k).length=512:=by rw [hview];exact hhome.2.2
  refine .fact (blobs_shape hvb) fun ⟨gb,cb,hvs,hcb⟩=>?_
  rw [<- hview] at hvb hvs
  refine .cast (d:=6) rfl (congrArg (Value.int .i64) hidx) ?_
  refine .condT rfl (congrArg Value.bool (by first | (simp only [hidx];simp;done) | omega)) ?_
  refine .seq ?_
  refine .dr ([pt j (jO d J.gen J.last x.ov x.mp),pt x.mp (.map x.es x.c)]) [] 15 mixed .autoJ ?_
  refine .tk 0 rfl .move ?_
  refine .tk 1 rfl .nilCheck ?_
  refine .tk 2 rfl (.fa fo320_5) ?_
  refine .tk 3 rfl (.ld sc318) ?_
  refine .tk 4 rfl .move ?_
  refine .tk 5 rfl .nilCheck ?_
  refine .tk 6 rfl (.fa fo320_2) ?_
  refine .tk 7 rfl (.ld sc134) ?_
  refine .tk 9 rfl .move ?_
  refine .on 8 rfl fun hnp=>?_
  refine .call (hc:=Tryz.call217) (sp:=slotN) (h:=?_)
  rintro _ _ ⟨rfl,rfl⟩
  refine .nil (.wa hnp ?_)
  refine .tk 10 rfl (.build (bdPlace _ _)) ?_
  refine .tk 11 rfl ((Qt.look (k:=(((J.last % 4:Nat):Int),(i:Int))) klP hp.hm mp318 zv33).eq (v':=.slice (some ⟨gb,0,none⟩) (J.view k).length cb) (by rw [hv];exact hvs)) ?_
  refine .on 12 rfl fun hnp=>?_
  refine .call (hc:=Tryz.call152) (sp:=bytesClone (Reads.blob (by rw [<- hvs];exact hvb)) rfl (by omega)) (h:=?_)
  rintro _ _ ⟨gc,kc,⟨rfl,hk1,hk2⟩,rfl⟩
  refine .nil (.wa hnp ?_)
  refine .tk 13 rfl .assign ?_
  refine .tk 14 rfl .assign ?_
  refine .fin ?_
  refine .next ?_
  refine .ret (.thenRet (?_))
  rw [hl5] at hk1
  refine .cast (d:=4) (u:=.slice (some ⟨gc,0,none⟩) 512 kc) rfl (by rw [hl5]) ?_
  refine .shutR (JR.opens j d n J) x hp ?_
  exact .ret2 (h1:=.tmp (t:=4) rfl) (h2:=.tmp (t:=5) rfl) ⟨_,⟨_,_,rfl,⟨hk1,hk2,hl5⟩,rfl⟩,Am.auto⟩
 ·have hview:J.view k=J.cur k:=by unfold JS.view;rw [hno];rfl
  refine .cast (d:=6) rfl (congrArg (Value.int .i64) hidx) ?_
  refine .condF rfl (congrArg Value.bool (by first | (simp only [hidx];simp;done) | omega)) ?_
  refine .skip (.next (.sr (.move ?_)))
  refine .nilCheck ?_
  refine .fa ?_ fo320_0
  refine .ld ?_ sc22
  refine .move ?_
  refine .call (hc:=Tryz.call218) (sp:=devRead (n:=n) (t:=0) (k:=k) (cur:=J.cur) hkn) (h:=?_)
  rintro _ _ ⟨gb,q,rfl,⟨hq1,hq2,hlen5⟩,rfl⟩
  refine .extract ?_
  refine .extract ?_
  refine .assign (.assign (.z ?_))
  refine .ret (?_)
  rw [<- hview] at hlen5
  refine .shutR (JR.opens j d n J) x hp ?_
  exact .ret2 (h1:=.tmp (t:=4) rfl) (h2:=.tmp (t:=5) rfl) ⟨_,⟨_,_,rfl,⟨hq1,hq2,hlen5⟩,by rw [hview]⟩,Am.auto⟩
structure CV where
 k:Nat
 g:Nat
 q:Nat
 xs:Bytes
def CV.val (c:CV):Value:=.slice (some ⟨c.g,0,none⟩) 512 c.q
def CV.pair (c:CV):Nat×Bytes:=(c.k,c.xs)
def chCells:List CV->List Value
 | []=>[]
 | c :: l=>.int .i64 (c.k:Int) :: c.val :: chCells l
theorem chCells_length:∀ l:List CV,(chCells l).length=l.length * 2
 | []=>rfl
 | c :: l=>by simp only [chCells,List.length_cons,chCells_length l];omega
theorem chCells_get:∀ (l:List CV) (i:Nat) (h:i < l.length),((chCells l).drop (i * 2)).take 2=[.int .i64 (l[i].k:Int),l[i].val]
 | c :: l,0,_=>rfl
 | c :: l,i+1,h=>by
  rw [show (i+1) * 2=i * 2+2 from by omega]
  exact chCells_get l i (by simpa using h)
theorem chCells_single:∀ (l:List CV),∀ u∈chCells l,Value.single u=true
 | [],u,h=>by cases h
 | c :: l,u,h=>by
  simp only [chCells,List.mem_cons] at h
  rcases h with rfl | rfl | h
  ·rfl
  ·rfl
  ·exact chCells_single l u h
def Lie (bl:List (Value×Bytes)) (l:List CV):Prop:=∀ c∈l,(c.val,c.xs)∈bl
def dataL (s:Nat) (l:List (Nat×Bytes)):List (Nat×Bytes):=l.zipIdx.map fun p=>(slotAt s (p.2+1),p.1.2)
theorem dataL_length (s:Nat) (l:List (Nat×Bytes)):(dataL s l).length=l.length:=by simp [dataL]
theorem dataL_get (s:Nat) (l:List (Nat×Bytes)) (i:Nat) (h:i < l.length):(dataL s l)[i]'(by rw [dataL_length];exact h)=(slotAt s (i+1),l[i].2):=by simp [dataL]
def headN (gen nn:Nat) (l:List (Nat×Bytes)):Nat->Bytes
 | 0=>laidB markH [gen,nn,l.length]
 | i+1=>put (headN gen nn l i) (32+4 * i) 4 false (match l[i]? with | some p=>p.1 | none=>0)
def headB (gen nn:Nat) (l:List (Nat×Bytes)):Bytes:=headN gen nn l l.length
theorem headN_length (gen nn:Nat) (l:List (Nat×Bytes)):∀ i,(headN gen nn l i).length=512
 | 0=>laidN_length (ys:=markH) (by decide) _ _
 | i+1=>by rw [headN,put_length];exact headN_length gen nn l i
def JS.next (J:JS):Nat:=(J.last+1) % 2 ^ 64
def JS.wrote (J:JS) (l:List (Nat×Bytes)):Nat->Bytes:=wr (lay (lay J.cur J.ch) (dataL (J.next % 4) l)) (slotAt (J.next % 4) 0) (headB J.gen J.next l)
def JS.commit (J:JS) (l:List (Nat×Bytes)):JS:=⟨J.gen,J.next,l,J.wrote l⟩
def boxJ (b j:Nat):HP:=pt b (.cells #[.pointer (some ⟨j,0,none⟩)] 215 (0,0))
def intO (i:Int):Obj:=.cells #[.int .i64 i] 3 (0,0)
def chO (c:CV):Obj:=.cells #[.int .i64 (c.k:Int),c.val] 315 (0,0)
def wr1V (b2 b5:Nat) (p:Nat×Nat):Value:=.func (.func 324) #[] #[.pointer (some ⟨b2,0,none⟩),.pointer (some ⟨b5,0,none⟩),.pointer (some ⟨p.1,0,none⟩),.pointer (some ⟨p.2,0,none⟩)]
def wr2V (b2 b5 b6:Nat):Value:=.func (.func 325) #[] #[.pointer (some ⟨b2,0,none⟩),.pointer (some ⟨b5,0,none⟩),.pointer (some ⟨b6,0,none⟩)]
def settleV (j:Nat):Value:=.func (.func 221) #[.pointer (some ⟨j,0,none⟩)] #[]
theorem jWrite1 {j d n t gen last mp b2 b5 b8 b9 nn i:Nat} {ov:Value} {os:List (Nat×Obj)} {bl:List (Value×Bytes)} {c:CV} {cur:Nat->Bytes} (h8:(b8,intO (i:Int))∈os) (h9:(b9,chO c)∈os) (hc:(c.val,c.xs)∈bl) (hx:c.xs.length=512) (hi:i<=59) (hn:246<=n) (ht:t<=1000) :
  Spec Tryz.prog 324 #[.pointer (some ⟨b2,0,none⟩),.pointer (some ⟨b5,0,none⟩),.pointer (some ⟨b8,0,none⟩),.pointer (some ⟨b9,0,none⟩)] [boxJ b2 j,cellU b5 nn,frz os,blobs bl,pt j (jO d gen last ov mp),DevR d n cur t] fun F v M=>v=okV/\M=[boxJ b2 j,cellU b5 nn,frz os,blobs bl,pt j (jO d gen last ov mp),DevR d n (wr cur (slotAt (nn % 4) (i+1)) c.xs) (t+1)]++F:=by
 refine Spec.intro Tryz.func324 rfl rfl fun B F=>?_
 simp only [Tryz.ntmps324,List.cons_append,List.nil_append,env0,Nat.reduceAdd]
 simp only [boxJ,cellU]
 refine .sr (.assign (.z (.seq ?_)))
 refine .dr ([pt b2 (.cells #[.pointer (some ⟨j,0,none⟩)] 215 (0,0)),pt b5 (.cells #[.int .u64 (nn:Int)] 134 (0,0)),frz os,pt j (jO d gen last ov mp)]) [] 14 mixed .autoJ ?_
 refine .tk 0 rfl (.ld sc215) ?_
 refine .tk 1 rfl .nilCheck ?_
 refine .tk 2 rfl (.fa fo320_0) ?_
 refine .tk 3 rfl (.ld sc22) ?_
 refine .tk 4 rfl (.ld sc134) ?_
 refine .tk 6 rfl (Qt.ldR (i:=0) sc3 (Reads.frz h8) rfl) ?_
 refine .tk 7 rfl .add ?_
 refine .tk 10 rfl (.fa fo315_1) ?_
 refine .tk 11 rfl (Qt.ldR (i:=1) sc33 (Reads.frz h9) rfl) ?_
 refine .on 5 rfl fun hnp=>?_
 refine .call (hc:=Tryz.call217) (sp:=slotN (a:=nn)) (h:=?_)
 rintro _ _ ⟨rfl,rfl⟩
 refine .nil (.wa hnp ?_)
 refine .tk 8 rfl (.build (bdPlace _ _)) ?_
 refine .on 9 rfl fun hnp=>?_
 refine .call (hc:=Tryz.call219) (sp:=placeAt (a:=nn % 4) (b:=i+1) (by omega)) (h:=?_)
 rintro _ _ ⟨rfl,rfl⟩
 refine .nil (.wa hnp ?_)
 refine .on 12 rfl fun hnp=>?_
 refine .call (hc:=Tryz.call260) (sp:=devWrite (n:=n) (t:=t) (cur:=cur) (k:=slotAt (nn % 4) (i+1)) (Reads.blob hc) hx rfl (by unfold slotAt;omega) (by omega)) (h:=?_)
 rintro _ _ ⟨rfl,rfl⟩
 refine .nil (.wa hnp ?_)
 refine .tk 13 rfl .assign ?_
 refine .fin ?_
 refine .next ?_
 refine .ret (?_)
 exact .ret1 (h1:=.tmp (t:=4) rfl) ⟨_,⟨rfl,rfl⟩,Am.auto⟩
theorem jWrite2 {j d n t gen last mp b2 b5 b6 gh qh nn:Nat} {ov:Value} {hd:Bytes} {cur:Nat->Bytes} (hx:hd.length=512) (hn:246<=n) (ht:t<=1000) :
  Spec Tryz.prog 325 #[.pointer (some ⟨b2,0,none⟩),.pointer (some ⟨b5,0,none⟩),.pointer (some ⟨b6,0,none⟩)] [boxJ b2 j,cellU b5 nn,pt b6 (.cells #[.slice (some ⟨gh,0,none⟩) 512 qh] 33 (0,0)),buf gh 5 qh (bvs hd),pt j (jO d gen last ov mp),DevR d n cur t] fun F v M=>v=okV/\M=[boxJ b2 j,cellU b5 nn,pt b6 (.cells #[.slice (some ⟨gh,0,none⟩) 512 qh] 33 (0,0)),buf gh 5 qh (bvs hd),pt j (jO d gen last ov mp),DevR d n (wr cur (slotAt (nn % 4) 0) hd) (t+1)]++F:=by
 refine Spec.intro Tryz.func325 rfl rfl fun B F=>?_
 simp only [Tryz.ntmps325,List.cons_append,List.nil_append,env0,Nat.reduceAdd]
 simp only [boxJ,cellU]
 refine .sr (.assign (.z (.seq ?_)))
 refine .dr ([pt b2 (.cells #[.pointer (some ⟨j,0,none⟩)] 215 (0,0)),pt b5 (.cells #[.int .u64 (nn:Int)] 134 (0,0)),pt b6 (.cells #[.slice (some ⟨gh,0,none⟩) 512 qh] 33 (0,0)),pt j (jO d gen last ov mp)]) [] 11 mixed .autoJ ?_
 refine .tk 0 rfl (.ld sc215) ?_
 refine .tk 1 rfl .nilCheck ?_
 refine .tk 2 rfl (.fa fo320_0) ?_
 refine .tk 3 rfl (.ld sc22) ?_
 refine .tk 4 rfl (.ld sc134) ?_
 refine .tk 8 rfl (.ld sc33) ?_
 refine .on 5 rfl fun hnp=>?_
 refine .call (hc:=Tryz.call217) (sp:=slotN (a:=nn)) (h:=?_)
 rintro _ _ ⟨rfl,rfl⟩
 refine .nil (.wa hnp ?_)
 refine .tk 6 rfl (.build (bdPlace _ _)) ?_
 refine .on 7 rfl fun hnp=>?_
 refine .call (hc:=Tryz.call219) (sp:=placeAt (a:=nn % 4) (b:=0) (by omega)) (h:=?_)
 rintro _ _ ⟨rfl,rfl⟩
 refine .nil (.wa hnp ?_)
 refine .on 9 rfl fun hnp=>?_
 refine .call (hc:=Tryz.call260) (sp:=devWrite (n:=n) (t:=t) (cur:=cur) (k:=slotAt (nn % 4) 0) Reads.buf hx rfl (by unfold slotAt;omega) (by omega)) (h:=?_)
 rintro _ _ ⟨rfl,rfl⟩
 refine .nil (.wa hnp ?_)
 refine .tk 10 rfl .assign ?_
 refine .fin ?_
 refine .next ?_
 refine .ret (?_)
 exact .ret1 (h1:=.tmp (t:=3) rfl) ⟨_,⟨rfl,rfl⟩,Am.auto⟩
theorem goesSettle {j d n t gen last mp c:Nat} {ov:Value} {es:Array MapEntry} {kv:List ((Int×Int)×Value)} {bl:List (Value×Bytes)} {ch:List (Nat×Bytes)} {cur:Nat->Bytes} (hm:MapIs pairE es c kv) (hk:Kept kv bl (last % 4) ch) (hf:Fit n ch) (ht:t<=1000) :
  Goes (settleV j) [pt j (jO d gen last ov mp),rowR 3 1 ov ch.length (blocksV ch),pt mp (.map es c),blobs bl,DevR d n cur t] [pt j (jO d gen last ov mp),rowR 3 1 ov ch.length (blocksV ch),pt mp (.map es c),blobs bl,DevR d n (lay cur ch) (t+ch.length)]:=⟨_,_,_,rfl,Tryz.call221,jSettle hm hk hf ht⟩
theorem goesWr2 {j d n t gen last mp b2 b5 b6 gh qh nn:Nat} {ov:Value} {hd:Bytes} {cur:Nat->Bytes} (hx:hd.length=512) (hn:246<=n) (ht:t<=1000) :
  Goes (wr2V b2 b5 b6) [boxJ b2 j,cellU b5 nn,pt b6 (.cells #[.slice (some ⟨gh,0,none⟩) 512 qh] 33 (0,0)),buf gh 5 qh (bvs hd),pt j (jO d gen last ov mp),DevR d n cur t] [boxJ b2 j,cellU b5 nn,pt b6 (.cells #[.slice (some ⟨gh,0,none⟩) 512 qh] 33 (0,0)),buf gh 5 qh (bvs hd),pt j (jO d gen last ov mp),DevR d n (wr cur (slotAt (nn % 4) 0) hd) (t+1)]:=⟨_,_,_,rfl,Tryz.call325,jWrite2 hx hn ht⟩
theorem dataChain {j d n t gen last mp b2 b5 nn:Nat} {ov:Value} {os:List (Nat×Obj)} {bs:List (Nat×Nat)} {bl:List (Value×Bytes)} {cvs:List CV} {cur:Nat->Bytes} (X:List HP) (hb:bs.length=cvs.length)
  (hos:∀ i (h:i < cvs.length) (h':i < bs.length),(bs[i].1,intO (i:Int))∈os/\(bs[i].2,chO cvs[i])∈os) (hli:Lie bl cvs) (hf:Fit n (cvs.map CV.pair)) (hn:246<=n) (ht:t<=500) :
  Chain (bs.map (wr1V b2 b5)) ([boxJ b2 j,cellU b5 nn,frz os,blobs bl,pt j (jO d gen last ov mp),DevR d n cur t]++X) ([boxJ b2 j,cellU b5 nn,frz os,blobs bl,pt j (jO d gen last ov mp),DevR d n (lay cur (dataL (nn % 4) (cvs.map CV.pair))) (t+cvs.length)]++X):=by
 have hfew:cvs.length<=60:=by simpa using hf.few
 have key:∀ k i,k+i=cvs.length->Chain ((bs.drop i).map (wr1V b2 b5)) ([boxJ b2 j,cellU b5 nn,frz os,blobs bl,pt j (jO d gen last ov mp),DevR d n (lay cur ((dataL (nn % 4) (cvs.map CV.pair)).take i)) (t+i)]++X) ([boxJ b2 j,cellU b5 nn,frz os,blobs bl,pt j (jO d gen last ov mp),DevR d n (lay cur (dataL (nn % 4) (cvs.map CV.pair))) (t+cvs.length)]++X):=by
  intro k
  induction k with
  | zero =>
   intro i hi
   have hi:i=cvs.length:=by omega
   rw [List.drop_of_length_le (by omega),List.take_of_length_le (by rw [dataL_length,List.length_map];omega),hi]
   exact .nil
  | succ k ih =>
   intro i hi
   have hlt:i < cvs.length:=by omega
   have hlt':i < bs.length:=by omega
   have hd:i < (dataL (nn % 4) (cvs.map CV.pair)).length:=by rw [dataL_length,List.length_map];exact hlt
   obtain ⟨h8,h9⟩:=hos i hlt hlt'
   have hhome:=hf.home cvs[i].pair (List.mem_map.2 ⟨_,List.getElem_mem hlt,rfl⟩)
   rw [List.drop_eq_getElem_cons hlt',List.map_cons]
   refine Chain.cons ?_ (ih (i+1) (by omega))
   have hg:Goes (wr1V b2 b5 bs[i]) [boxJ b2 j,cellU b5 nn,frz os,blobs bl,pt j (jO d gen last ov mp),DevR d n (lay cur ((dataL (nn % 4) (cvs.map CV.pair)).take i)) (t+i)] [boxJ b2 j,cellU b5 nn,frz os,blobs bl,pt j (jO d gen last ov mp),DevR d n (lay cur ((dataL (nn % 4) (cvs.map CV.pair)).take (i+1))) (t+(i+1))]:=by
    rw [lay_take _ _ _ hd,dataL_get _ _ _ (by simpa using hlt),List.getElem_map]
    exact ⟨_,_,_,rfl,Tryz.call324,jWrite1 h8 h9 (hli _ (List.getElem_mem hlt)) hhome.2.2 (by omega) hn (by omega)⟩
   exact hg.sub (t:=Tk.app) (m:=.refl)
 have:=key cvs.length 0 (by omega)
 exact this
structure WI (cvs:List CV) (i:Int) (os:List (Nat×Obj)) (bs:List (Nat×Nat)):Prop where
 lo:0<=i
 hi:i<=cvs.length
 len:bs.length=i.toNat
 lie:∀ k (h:k < cvs.length) (h':k < bs.length),(bs[k].1,intO (k:Int))∈os/\(bs[k].2,chO cvs[k])∈os
theorem WI.step {cvs:List CV} {i:Int} {os:List (Nat×Obj)} {bs:List (Nat×Nat)} (h:WI cvs i os bs) (hlt:i.toNat < cvs.length) (b8 b9:Nat):WI cvs (i+1) ((b9,chO cvs[i.toNat]) :: (b8,intO i) :: os) (bs++[(b8,b9)]):=by
 have hlen:=h.len
 have hlo:=h.lo
 refine ⟨by omega,by omega,by simp;omega,fun k hk hk'=>?_⟩
 simp only [List.length_append,List.length_cons,List.length_nil] at hk'
 by_cases hkl:k < bs.length
 ·rw [List.getElem_append_left hkl]
  exact ⟨List.mem_cons_of_mem _ (List.mem_cons_of_mem _ (h.lie k hk hkl).1),List.mem_cons_of_mem _ (List.mem_cons_of_mem _ (h.lie k hk hkl).2)⟩
 ·have hki:k=i.toNat:=by omega
  subst hki
  rw [List.getElem_append_right (by omega)]
  simp only [hlen,Nat.sub_self,List.getElem_cons_zero]
  rw [show ((i.toNat:Nat):Int)=i from by omega]
  exact ⟨List.mem_cons_of_mem _ (List.mem_cons_self ..),List.mem_cons_self ..⟩
theorem jWrite {j d n gen last mp c m c0:Nat} {ov:Value} {es:Array MapEntry} {kv:List ((Int×Int)×Value)} {jbl bl:List (Value×Bytes)} {ch:List (Nat×Bytes)} {cur:Nat->Bytes} {Rl:HP} {A:Option Addr} {cvs:List CV}
  (hm:MapIs pairE es c kv) (hk:Kept kv jbl (last % 4) ch) (hf:Fit n ch) (hR:Reads Rl A (chCells cvs)) (hml:cvs.length=m) (hli:Lie bl cvs) (hfit:Fit n (cvs.map CV.pair)) (hgen:gen < 2 ^ 64) (hn:246<=n) (hn2:n<=65536) :
  Spec Tryz.prog 300 #[.pointer (some ⟨j,0,none⟩),.slice A m c0] [Rl,blobs bl,pt j (jO d gen last ov mp),rowR 3 1 ov ch.length (blocksV ch),pt mp (.map es c),blobs jbl,DevR d n cur 0] fun F v M=>v=okV/\M=[Rl,blobs bl,pt j (jO d gen last ov mp),rowR 3 1 ov ch.length (blocksV ch),pt mp (.map es c),blobs jbl,DevR d n ((JS.mk gen last ch cur).wrote (cvs.map CV.pair)) 0]++F:=by
 refine Spec.intro Tryz.func300 rfl rfl fun B F=>?_
 simp only [Tryz.ntmps300,List.cons_append,List.nil_append,env0,Nat.reduceAdd]
 have hfew:cvs.length<=60:=by simpa using hfit.few
 have hfew2:=hf.few
 have hnn:(last+1) % 2 ^ 64 < 2 ^ 64:=Nat.mod_lt _ (by decide)
 subst hml
 refine .sr ?_
 refine .box fun b2=>?_
 refine .assign (.x ?_)
 refine .ld ?_ sc215
 refine .nilCheck ?_
 refine .fa ?_ fo320_2
 refine .ld ?_ sc134
 refine .addw ?_
 refine .cast (d:=14) rfl (congrArg (Value.int .u64) (u64_wrap1 last)) ?_
 refine .alloc z134 fun b5=>?_
 refine .st ?_ sc134
 refine .z (.seq ?_)
 refine .join (σ:=Nat×Nat×Nat) (fun s=>[(1,.slice A cvs.length c0),(2,.pointer (some ⟨b2,0,none⟩)),(5,.pointer (some ⟨b5,0,none⟩)),(6,.pointer (some ⟨s.1,0,none⟩))])
  (fun s=>[pt s.1 (.cells #[.slice (some ⟨s.2.1,0,none⟩) 512 s.2.2] 33 (0,0)),buf s.2.1 5 s.2.2 (bvs (headN gen ((last+1) % 2 ^ 64) (cvs.map CV.pair) 0)),boxJ b2 j,cellU b5 ((last+1) % 2 ^ 64),Rl,blobs bl,pt j (jO d gen last ov mp),rowR 3 1 ov ch.length (blocksV ch),pt mp (.map es c),blobs jbl,DevR d n cur 0]++F) (fun s=>512<=s.2.2/\s.2.2<=maxLen) ?_ ?_
 ·refine .dr ([pt b2 (.cells #[.pointer (some ⟨j,0,none⟩)] 215 (0,0)),pt b5 (.cells #[.int .u64 (((last+1) % 2 ^ 64):Nat)] 134 (0,0)),pt j (jO d gen last ov mp)]) [11] 12 mixed .autoJ ?_
  refine .tk 0 rfl (.ld sc215) ?_
  refine .tk 1 rfl .nilCheck ?_
  refine .tk 2 rfl (.fa fo320_1) ?_
  refine .tk 3 rfl (.ld sc134) ?_
  refine .tk 4 rfl (.ld sc134) ?_
  refine .tk 5 rfl .move ?_
  refine .tk 6 rfl (.lenS sl309) ?_
  refine .tk 7 rfl ((Qt.cvt un3 un134).eq (v':=.int .u64 ((cvs.length:Nat):Int)) (congrArg (Value.int .u64) (IntWalk.u64_in _ (by omega)))) ?_
  refine .tw 8 10 rfl rfl (fun hnp=>?_) (fun hnp=>?_)
  ·refine .buildS (fun b23=>?_) (bs384_3 _ _ _)
   refine .nil (.wa hnp ?_)
   refine .tw 9 10 rfl rfl (fun hnp=>?_) (fun hnp=>?_)
   ·refine .call (hc:=Tryz.call262) (sp:=jLaid (ys:=markH) (nums:=[gen,((last+1) % 2 ^ 64),cvs.length]) (by decide) Reads.pt rfl (Nat.le_of_ble_eq_true rfl) (by intro v hv;simp only [List.mem_cons,List.not_mem_nil,or_false] at hv;rcases hv with rfl | rfl | rfl<;>omega)) (h:=?_)
    rintro _ _ ⟨gh,qh,⟨rfl,hq1,hq2⟩,rfl⟩
    refine .nil (.wa hnp ?_)
    refine .on 10 rfl fun hnp=>?_
    refine .alloc z33 fun b6=>?_
    refine .nil (.wa hnp ?_)
    refine .on 11 rfl fun hnp=>?_
    refine .st ?_ sc33
    refine .nil (.wb hnp ?_)
    refine .fin ?_
    refine .to (A':=buf gh 5 qh (bvs (headN gen ((last+1) % 2 ^ 64) (cvs.map CV.pair) 0))) (fun h hh=>by rw [headN,List.length_map];exact hh) ?_
    exact .joined (b6,gh,qh) ⟨hq1,hq2⟩
   ·refine .alloc z33 fun b6=>?_
    refine .nil (.wa hnp ?_)
    refine .on 9 rfl fun hnp=>?_
    refine .call (hc:=Tryz.call262) (sp:=jLaid (ys:=markH) (nums:=[gen,((last+1) % 2 ^ 64),cvs.length]) (by decide) Reads.pt rfl (Nat.le_of_ble_eq_true rfl) (by intro v hv;simp only [List.mem_cons,List.not_mem_nil,or_false] at hv;rcases hv with rfl | rfl | rfl<;>omega)) (h:=?_)
    rintro _ _ ⟨gh,qh,⟨rfl,hq1,hq2⟩,rfl⟩
    refine .nil (.wa hnp ?_)
    refine .on 11 rfl fun hnp=>?_
    refine .st ?_ sc33
    refine .nil (.wb hnp ?_)
    refine .fin ?_
    refine .to (A':=buf gh 5 qh (bvs (headN gen ((last+1) % 2 ^ 64) (cvs.map CV.pair) 0))) (fun h hh=>by rw [headN,List.length_map];exact hh) ?_
    exact .joined (b6,gh,qh) ⟨hq1,hq2⟩
  ·refine .alloc z33 fun b6=>?_
   refine .nil (.wa hnp ?_)
   refine .on 8 rfl fun hnp=>?_
   refine .buildS (fun b23=>?_) (bs384_3 _ _ _)
   refine .nil (.wa hnp ?_)
   refine .on 9 rfl fun hnp=>?_
   refine .call (hc:=Tryz.call262) (sp:=jLaid (ys:=markH) (nums:=[gen,((last+1) % 2 ^ 64),cvs.length]) (by decide) Reads.pt rfl (Nat.le_of_ble_eq_true rfl) (by intro v hv;simp only [List.mem_cons,List.not_mem_nil,or_false] at hv;rcases hv with rfl | rfl | rfl<;>omega)) (h:=?_)
   rintro _ _ ⟨gh,qh,⟨rfl,hq1,hq2⟩,rfl⟩
   refine .nil (.wa hnp ?_)
   refine .on 11 rfl fun hnp=>?_
   refine .st ?_ sc33
   refine .nil (.wb hnp ?_)
   refine .fin ?_
   refine .to (A':=buf gh 5 qh (bvs (headN gen ((last+1) % 2 ^ 64) (cvs.map CV.pair) 0))) (fun h hh=>by rw [headN,List.length_map];exact hh) ?_
   exact .joined (b6,gh,qh) ⟨hq1,hq2⟩
 ·rintro ⟨b6,gh0,qh0⟩ ⟨hq1,hq2⟩
  refine .next (.sr (.assign ?_))
  refine .emp (rowR.nil (e:=183) (size:=1) _) ?_
  refine .emp frz_nil ?_
  refine .z (.seq (.sr (.move ?_)))
  refine .lenS ?_ sl309
  refine .move (.z (.block ?_))
  refine .loopA (σ:=Int×Nat×Nat×Value×List (Nat×Obj)×List (Nat×Nat)) (fun s=>[(1,.slice A cvs.length c0),(2,.pointer (some ⟨b2,0,none⟩)),(5,.pointer (some ⟨b5,0,none⟩)),(6,.pointer (some ⟨b6,0,none⟩)),(7,s.2.2.2.1),(25,.slice A cvs.length c0),(26,.int .i64 (cvs.length:Int)),(27,.int .i64 s.1)]) (fun s=>[pt b6 (.cells #[.slice (some ⟨s.2.1,0,none⟩) 512 s.2.2.1] 33 (0,0)),buf s.2.1 5 s.2.2.1 (bvs (headN gen ((last+1) % 2 ^ 64) (cvs.map CV.pair) s.1.toNat)),rowR 183 1 s.2.2.2.1 s.1.toNat (s.2.2.2.2.2.map (wr1V b2 b5)),frz s.2.2.2.2.1,boxJ b2 j,cellU b5 ((last+1) % 2 ^ 64),Rl,blobs bl,pt j (jO d gen last ov mp),rowR 3 1 ov ch.length (blocksV ch),pt mp (.map es c),blobs jbl,DevR d n cur 0]++F) (fun s=>WI cvs s.1 s.2.2.2.2.1 s.2.2.2.2.2/\512<=s.2.2.1/\s.2.2.1<=maxLen) (fun s=>((cvs.length:Int) - s.1).toNat) (0,gh0,qh0,.slice none 0 0,[],[]) ⟨⟨by omega,by omega,rfl,fun k hk hk'=>by simp at hk'⟩,hq1,hq2⟩ ?_
  rintro ⟨i,gh,qh,v,os,bs⟩ ⟨hi,hq1,hq2⟩
  refine .sr ?_
  refine .lss ?_
  refine .z (.seq ?_)
  refine .cond rfl (fun hb=>?_) (fun hb=>?_)
  ·have hlt:i < (cvs.length:Int):=of_decide_eq_true hb
   have hlo:=hi.lo
   have hil:i.toNat < cvs.length:=by omega
   have hcl:=chCells_length cvs
   have hhome:=hfit.home cvs[i.toNat].pair (List.mem_map.2 ⟨_,List.getElem_mem hil,rfl⟩)
   have hkk:cvs[i.toNat].k < n:=hhome.2.1
   rcases A with _ | ⟨ab,ao,asp⟩
   ·exact absurd hR (fun h=>by have h2:chCells cvs=[]:=h;rw [h2] at hcl;simp at hcl;omega)
   have hsp:asp=none:=hR.1
   subst hsp
   have hstep:put (headN gen ((last+1) % 2 ^ 64) (cvs.map CV.pair) i.toNat) (32+4 * i).toNat (4:Int).toNat false cvs[i.toNat].k=headN gen ((last+1) % 2 ^ 64) (cvs.map CV.pair) (i+1).toNat:=by
    rw [show (i+1).toNat=i.toNat+1 from by omega,headN,show (cvs.map CV.pair)[i.toNat]?=some cvs[i.toNat].pair from by simp [hil],show (32+4 * i).toNat=32+4 * i.toNat from by omega]
    rfl
   refine .skip (.next (.seq (.block (.sr (.move ?_)))))
   refine .idx ?_ so309
   refine .ldAR ?_ agg315 hR (chCells_get cvs i.toNat hil) (by rw [chCells_length];omega)
   refine .alloc z3 fun b8=>?_
   refine .alloc z315 fun b9=>?_
   refine .st ?_ sc3
   refine .stV ?_ agg315
   refine .x ?_
   refine .ld ?_ sc33
   refine .ld ?_ sc3
   refine .mul ?_
   refine .add ?_
   refine .fa ?_ fo315_0
   refine .ld ?_ sc3
   refine .cvt ?_ un3 un134
   refine .cast (d:=39) rfl (congrArg (Value.int .u64) (IntWalk.u64_in _ (by omega))) ?_
   refine .call (hc:=Tryz.call74) (sp:=bitsPut (xs:=headN gen ((last+1) % 2 ^ 64) (cvs.map CV.pair) i.toNat) (v:=cvs[i.toNat].k) Reads.buf (headN_length _ _ _ _) (by decide) (by omega) (by omega) (by omega) (by omega)) (h:=?_)
   rintro _ _ ⟨g',q',⟨rfl,h1,h2⟩,rfl⟩
   refine .move ?_
   refine .extract ?_
   refine .extract ?_
   refine .st ?_ sc33
   refine .y (.move ?_)
   refine .makeFuncB ?_
   refine .buildS (fun b45=>?_) (bs220_1 _ _ _)
   refine .append (m:=1) so220 (by decide) (by repeat (first | exact .here | apply Rem.there | apply Repl.there | apply Mem.there)) Reads.pt (by repeat (first | exact .here | apply Rem.there | apply Repl.there | apply Mem.there)) rfl (by simp [Value.single]) (by unfold maxLen;omega) (by omega) ⟨_,z183,rfl⟩ (fun v' hv'=>?_)
   refine .assign (.nil (.blockNormal (.next (.region ?_))))
   refine .add ?_
   refine .move (.nil ?_)
   refine .to (A':=pt b8 (intO i)) (fun h hh=>hh) ?_
   refine .to (A':=pt b9 (chO cvs[i.toNat])) (fun h hh=>hh) ?_
   refine .frzAdd (b:=b8) (os:=os) ?_
   refine .frzAdd (b:=b9) (os:=(b8,intO i) :: os) ?_
   refine .to (A:=rowR 183 1 v' (i.toNat+1) (bs.map (wr1V b2 b5)++[(b8,b9)].map (wr1V b2 b5))) (A':=rowR 183 1 v' (i+1).toNat ((bs++[(b8,b9)]).map (wr1V b2 b5))) (fun h hh=>by rw [show (i+1).toNat=i.toNat+1 from by omega,List.map_append];exact hh) ?_
   refine .to (A:=buf g' 5 q' (bvs (put (headN gen ((last+1) % 2 ^ 64) (cvs.map CV.pair) i.toNat) (32+4 * i).toNat (4:Int).toNat false cvs[i.toNat].k))) (A':=buf g' 5 q' (bvs (headN gen ((last+1) % 2 ^ 64) (cvs.map CV.pair) (i+1).toNat))) (fun h hh=>by rw [<- hstep];exact hh) ?_
   exact .back (i+1,g',q',v',(b9,chO cvs[i.toNat]) :: (b8,intO i) :: os,bs++[(b8,b9)]) ⟨hi.step hil b8 b9,h1,h2⟩ (by show ((cvs.length:Int) - (i+1)).toNat < ((cvs.length:Int) - i).toNat;omega)
  ·have hge:¬ i < (cvs.length:Int):=of_decide_eq_false hb
   have hlo:=hi.lo
   have hhi:=hi.hi
   have hie:i=(cvs.length:Int):=by omega
   subst hie
   have hbl:bs.length=cvs.length:=by rw [hi.len];omega
   simp only [Int.toNat_natCast]
   have hhd:headN gen ((last+1) % 2 ^ 64) (cvs.map CV.pair) cvs.length=headB gen ((last+1) % 2 ^ 64) (cvs.map CV.pair):=by unfold headB;rw [List.length_map]
   have hhl:(headB gen ((last+1) % 2 ^ 64) (cvs.map CV.pair)).length=512:=headN_length _ _ _ _
   rw [hhd]
   refine .fact (rowR_shape (el:=183) (size:=1) (v:=v) (k:=cvs.length) (xs:=bs.map (wr1V b2 b5))) (fun ⟨A2,c2,hv2,hR2,hk2,hc2,hl2⟩=>?_)
   subst hv2
   refine .exit (.thenExit (.thenExit (.blockExit (?_))))
   refine .next (.sr ?_)
   refine .ld ?_ sc215
   refine .makeFuncB ?_
   refine .buildS (fun b50=>?_) (bs220_1 _ _ _)
   refine .to (A':=buf b50 183 1 [settleV j]) (buf_of_pt (cs:=#[settleV j]) rfl) ?_
   refine .to (rowR_of_buf (g:=b50) (el:=183) (cap:=1) (xs:=[settleV j]) (by decide)) ?_
   refine .move ?_
   refine .appendAny (m:=cvs.length) so220 (by decide) (by repeat (first | exact .here | apply Rem.there | apply Repl.there | apply Mem.there)) hR2 (by repeat (first | exact .here | apply Rem.there | apply Repl.there | apply Mem.there)) hl2 (by intro u hu;obtain ⟨p,_,rfl⟩:=List.mem_map.1 hu;rfl) (by unfold maxLen;simp only [List.length_cons,List.length_nil];omega) (by simp only [List.length_cons,List.length_nil];omega) ⟨_,z183,rfl⟩ (fun vB hvB=>?_)
   refine .assign (.z (.seq ?_))
   refine .dr ([boxJ b2 j,pt j (jO d gen last ov mp)]) [] 16 mixed .autoJ ?_
   refine .tk 0 rfl .move ?_
   refine .tk 1 rfl (.ld sc215) ?_
   refine .tk 2 rfl .nilCheck ?_
   refine .tk 3 rfl (.fa fo320_0) ?_
   refine .tk 4 rfl (.ld sc22) ?_
   refine .tk 5 rfl .makeFuncB ?_
   refine .tk 6 rfl .makeFuncB ?_
   refine .tk 7 rfl (.ld sc215) ?_
   refine .tk 8 rfl .nilCheck ?_
   refine .tk 9 rfl (.fa fo320_0) ?_
   refine .tk 10 rfl (.ld sc22) ?_
   refine .tk 11 rfl .makeFuncB ?_
   refine .on 12 rfl fun hnp=>?_
   refine .buildS (fun b65=>?_) (bs220_3 _ _ _ _ _ _ _ _ _)
   refine .nil (.wa hnp ?_)
   refine .on 13 rfl fun hnp=>?_
   refine .append (m:=3) so220 (by decide) (by repeat (first | exact .here | apply Rem.there | apply Repl.there | apply Mem.there)) Reads.pt (by repeat (first | exact .here | apply Rem.there | apply Repl.there | apply Mem.there)) rfl (by simp [Value.single]) (by unfold maxLen;simp only [List.length_cons,List.length_nil];omega) (by simp only [List.length_cons,List.length_nil];omega) ⟨_,z183,rfl⟩ (fun vT hvT=>?_)
   refine .rowOpen (v:=vT) fun A3 c3 hv3 hR3 hc31 hc32=>?_
   subst hv3
   refine .nil (.wa hnp ?_)
   refine .on 14 rfl fun hnp=>?_
   refine .call (hc:=Tryz.call220) (sp:=jTriesC ((Chain.cons (I:=[boxJ b2 j,cellU b5 ((last+1) % 2 ^ 64),frz os,blobs bl,pt j (jO d gen last ov mp),DevR d n cur 0,Rl,rowR 3 1 ov ch.length (blocksV ch),pt mp (.map es c),blobs jbl,pt b6 (.cells #[.slice (some ⟨gh,0,none⟩) 512 qh] 33 (0,0)),buf gh 5 qh (bvs (headB gen ((last+1) % 2 ^ 64) (cvs.map CV.pair)))]) (goesSettle hm hk hf (t:=0) (cur:=cur) (by omega)).sub (Chain.append (dataChain (t:=0+ch.length) (cur:=lay cur ch) [Rl,rowR 3 1 ov ch.length (blocksV ch),pt mp (.map es c),blobs jbl,pt b6 (.cells #[.slice (some ⟨gh,0,none⟩) 512 qh] 33 (0,0)),buf gh 5 qh (bvs (headB gen ((last+1) % 2 ^ 64) (cvs.map CV.pair)))] hbl hi.lie hli hfit hn (by omega)) (.cons (goesFlush (d:=d) (n:=n) (t:=0+ch.length+cvs.length) (cur:=lay (lay cur ch) (dataL (((last+1) % 2 ^ 64) % 4) (cvs.map CV.pair)))).sub (.cons (goesWr2 (j:=j) (d:=d) (n:=n) (t:=0) (gen:=gen) (last:=last) (mp:=mp) (b2:=b2) (b5:=b5) (b6:=b6) (gh:=gh) (qh:=qh) (nn:=((last+1) % 2 ^ 64)) (ov:=ov) (hd:=headB gen ((last+1) % 2 ^ 64) (cvs.map CV.pair)) (cur:=lay (lay cur ch) (dataL (((last+1) % 2 ^ 64) % 4) (cvs.map CV.pair))) hhl hn (by decide)).sub (.cons goesFlush.sub .nil)))))) hR3 (by simp only [List.length_append,List.length_cons,List.length_nil,List.length_map];omega) (by simp only [List.length_cons,List.length_nil];omega)) (h:=?_)
   rintro _ _ ⟨rfl,rfl⟩
   simp only [List.cons_append,List.nil_append]
   refine .nil (.wa hnp ?_)
   refine .tk 15 rfl .assign ?_
   refine .fin ?_
   refine .next ?_
   refine .ret (?_)
   exact .ret1 (h1:=.tmp (t:=4) rfl) ⟨_,⟨rfl,rfl⟩,Am.auto⟩
theorem bs80_1 (v0:Int):BuildSOk Tryz.prog 80 1 [(0,.int .i64 v0)] 3 #[.int .i64 v0]:=fun w=>by kernel_rfl
theorem blocksV_take (l:List (Nat×Bytes)) (i:Nat) (h:i < l.length):blocksV (l.take (i+1))=blocksV (l.take i)++[.int .i64 (l[i].1:Int)]:=by
 unfold blocksV ints
 rw [List.take_succ_eq_append_getElem h,List.map_append,List.map_append]
 rfl
theorem Kept.snoc {kv:List ((Int×Int)×Value)} {bl:List (Value×Bytes)} {s i:Nat} {l:List (Nat×Bytes)} (h:Kept kv bl s (l.take i)) (hi:i < l.length) {v:Value} {p:Value×Bytes} (hp:p=(v,l[i].2)):Kept (kput kv ((s:Int),(i:Int)) v) (p :: bl) s (l.take (i+1)):=by
 subst hp
 intro k hk
 rw [List.length_take] at hk
 by_cases hki:k=i
 ·subst hki
  refine ⟨v,by rw [kget_put,if_pos rfl],?_⟩
  rw [List.getElem_take]
  exact List.mem_cons_self ..
 ·obtain ⟨u,h1,h2⟩:=h k (by rw [List.length_take];omega)
  refine ⟨u,?_,?_⟩
  ·rw [kget_put,if_neg (fun hh=>hki (by have:=congrArg Prod.snd hh;simp only at this;omega))]
   exact h1
  ·rw [List.getElem_take] at h2 ⊢
   exact List.mem_cons_of_mem _ h2
structure CI (n:Nat) (s:Nat) (l:List (Nat×Bytes)) (i:Int) (es:Array MapEntry) (c:Nat) (kv:List ((Int×Int)×Value)) (bl:List (Value×Bytes)):Prop where
 lo:0<=i
 hi:i<=l.length
 hm:MapIs pairE es c kv
 hk:Kept kv bl s (l.take i.toNat)
theorem jCommit0 {j d n m c0:Nat} {J:JS} {bl:List (Value×Bytes)} {Rl:HP} {A:Option Addr} {cvs:List CV}
  (hR:Reads Rl A (chCells cvs)) (hml:cvs.length=m) (hli:Lie bl cvs) (hfit:Fit n (cvs.map CV.pair)) :
  Spec Tryz.prog 268 #[.pointer (some ⟨j,0,none⟩),.slice A m c0] [Rl,blobs bl,JR j d n J] fun F v M=>v=okV/\M=[Rl,blobs bl,JR j d n (J.commit (cvs.map CV.pair))]++F:=by
 refine Spec.intro Tryz.func268 rfl rfl fun B F=>?_
 simp only [Tryz.ntmps268,List.cons_append,List.nil_append,env0,Nat.reduceAdd]
 refine .openR (JR.opens j d n J) fun x hp=>?_
 simp only [jL,List.cons_append,List.nil_append]
 subst hml
 have hfew:cvs.length<=60:=by simpa using hfit.few
 have hnn:J.next < 2 ^ 64:=Nat.mod_lt _ (by decide)
 refine .sr (.assign (.z (.seq (.sr (.move ?_)))))
 refine .eqNil ?_ ptr215
 refine .move ?_
 refine .gT ?_
 refine .move ?_
 refine .gT ?_
 refine .nilCheck ?_
 refine .gT ?_
 refine .fa ?_ fo320_0
 refine .gT ?_
 refine .ld ?_ sc22
 refine .gT ?_
 refine .eqNil ?_ ptr22
 refine .pickF ?_
 refine .move ?_
 refine .gT ?_
 refine .move ?_
 refine .gT ?_
 refine .nilCheck ?_
 refine .gT ?_
 refine .fa ?_ fo320_3
 refine .gT ?_
 refine .ld ?_ sc4
 refine .pickF ?_
 refine .z ?_
 refine .condF rfl rfl ?_
 refine .skip (.next (.seq (.sr (.move (.move ?_)))))
 refine .call (hc:=Tryz.call300) (sp:=jWrite hp.hm hp.hk hp.hf hR rfl hli hfit hp.hg hp.n1 hp.n2) (h:=?_)
 rintro _ _ ⟨rfl,rfl⟩
 simp only [List.cons_append,List.nil_append]
 refine .assign (.x (.move ?_))
 refine .nei ?_
 refine .z ?_
 refine .condF rfl rfl ?_
 refine .skip (.next (.sr (.move ?_)))
 refine .nilCheck ?_
 refine .fa ?_ fo320_2
 refine .ld ?_ sc134
 refine .addw ?_
 refine .cast (d:=36) (u:=.int .u64 (J.next:Int)) rfl (congrArg (Value.int .u64) (u64_wrap1 J.last)) ?_
 refine .nilCheck ?_
 refine .fa ?_ fo320_2
 refine .st ?_ sc134
 refine .x (.move (.move ?_))
 refine .mkMap fun m41=>?_
 refine .nilCheck ?_
 refine .fa ?_ fo320_4
 refine .st ?_ sc80
 refine .nilCheck ?_
 refine .fa ?_ fo320_5
 refine .st ?_ sc318
 refine .z (.seq (.sr (.move ?_)))
 refine .lenS ?_ sl309
 refine .move (.z (.block ?_))
 refine .blobsNil ?_
 refine .emp (rowR.nil (e:=3) (size:=1) _) ?_
 refine .loopA (σ:=Int×Value×Array MapEntry×Nat×List ((Int×Int)×Value)×List (Value×Bytes)) (fun s=>[(0,.pointer (some ⟨j,0,none⟩)),(46,.slice A cvs.length c0),(47,.int .i64 (cvs.length:Int)),(48,.int .i64 s.1)]) (fun s=>[pt j (jO d J.gen J.next s.2.1 m41),rowR 3 1 s.2.1 s.1.toNat (blocksV ((cvs.map CV.pair).take s.1.toNat)),pt m41 (.map s.2.2.1 s.2.2.2.1),blobs s.2.2.2.2.2,Rl,blobs bl,DevR d n (J.wrote (cvs.map CV.pair)) 0]++F) (fun s=>CI n (J.next % 4) (cvs.map CV.pair) s.1 s.2.2.1 s.2.2.2.1 s.2.2.2.2.1 s.2.2.2.2.2) (fun s=>((cvs.length:Int) - s.1).toNat) (0,.slice none 0 0,#[],0,[],[]) ⟨by omega,by omega,MapIs.empty _ _,fun k hk=>by simp at hk⟩ ?_
 rintro ⟨i,ov,es,c,kv,bl2⟩ hi
 refine .sr ?_
 refine .lss ?_
 refine .z (.seq ?_)
 refine .cond rfl (fun hb=>?_) (fun hb=>?_)
 ·have hlt:i < (cvs.length:Int):=of_decide_eq_true hb
  have hlo:=hi.lo
  have hil:i.toNat < cvs.length:=by omega
  have hcl:=chCells_length cvs
  have hhome:=hfit.home cvs[i.toNat].pair (List.mem_map.2 ⟨_,List.getElem_mem hil,rfl⟩)
  have hx5:cvs[i.toNat].xs.length=512:=hhome.2.2
  have hil2:i.toNat < (cvs.map CV.pair).length:=by simpa using hil
  rcases A with _ | ⟨ab,ao,asp⟩
  ·exact absurd hR (fun h=>by have h2:chCells cvs=[]:=h;rw [h2] at hcl;simp at hcl;omega)
  have hsp:asp=none:=hR.1
  subst hsp
  refine .skip (.next (.seq (.block (.sr (.move ?_)))))
  refine .idx ?_ so309
  refine .ldAR ?_ agg315 hR (chCells_get cvs i.toNat hil) (by rw [chCells_length];omega)
  refine .alloc z315 fun b7=>?_
  refine .assign ?_
  refine .stV ?_ agg315
  refine .z (.seq ?_)
  refine .dr ([pt j (jO d J.gen J.next ov m41),pt b7 (chO cvs[i.toNat])]) [11] 12 mixed .autoJ ?_
  refine .tk 0 rfl .move ?_
  refine .tk 1 rfl .move ?_
  refine .tk 2 rfl .nilCheck ?_
  refine .tk 3 rfl (.fa fo320_4) ?_
  refine .tk 4 rfl (.ld sc80) ?_
  refine .tk 5 rfl (.fa fo315_0) ?_
  refine .tk 6 rfl (.ld sc3) ?_
  refine .on 7 rfl fun hnp=>?_
  refine .buildS (fun b60=>?_) (bs80_1 _)
  refine .nil (.wa hnp ?_)
  refine .on 8 rfl fun hnp=>?_
  refine .append (m:=1) so80 (by decide) (by repeat (first | exact .here | apply Rem.there | apply Repl.there | apply Mem.there)) Reads.pt (by repeat (first | exact .here | apply Rem.there | apply Repl.there | apply Mem.there)) rfl (by simp [Value.single]) (by unfold maxLen;omega) (by omega) ⟨_,z3,rfl⟩ (fun ov' hov'=>?_)
  refine .rowOpen (v:=ov') fun A4 c4 hv4 hR4 h41 h42=>?_
  subst hv4
  refine .nil (.wa hnp ?_)
  refine .on 9 rfl fun hnp=>?_
  refine .nilCheck ?_
  refine .nil (.wa hnp ?_)
  refine .tk 10 rfl (.fa fo320_4) ?_
  refine .on 11 rfl fun hnp=>?_
  refine .st ?_ sc80
  refine .nil (.wb hnp ?_)
  refine .fin ?_
  refine .next ?_
  refine .dr ([pt j (jO d J.gen J.next (.slice (some A4) (i.toNat+1) c4) m41),pt b7 (chO cvs[i.toNat])]) [14] 15 mixed .autoJ ?_
  refine .tk 0 rfl .move ?_
  refine .tk 1 rfl .nilCheck ?_
  refine .tk 2 rfl (.fa fo320_5) ?_
  refine .tk 3 rfl (.ld sc318) ?_
  refine .tk 4 rfl .move ?_
  refine .tk 5 rfl .nilCheck ?_
  refine .tk 6 rfl (.fa fo320_2) ?_
  refine .tk 7 rfl (.ld sc134) ?_
  refine .tk 9 rfl .move ?_
  refine .tk 11 rfl (.fa fo315_1) ?_
  refine .tk 12 rfl (.ld sc33) ?_
  refine .on 8 rfl fun hnp=>?_
  refine .call (hc:=Tryz.call217) (sp:=slotN (a:=J.next)) (h:=?_)
  rintro _ _ ⟨rfl,rfl⟩
  refine .nil (.wa hnp ?_)
  refine .tk 10 rfl (.build (bdPlace _ _)) ?_
  refine .on 13 rfl fun hnp=>?_
  refine .call (hc:=Tryz.call152) (sp:=bytesClone (Reads.blob (hli _ (List.getElem_mem hil))) hx5 (by decide)) (h:=?_)
  rintro _ _ ⟨gc,kc,⟨rfl,hk1,hk2⟩,rfl⟩
  refine .nil (.wa hnp ?_)
  refine .on 14 rfl fun hnp=>?_
  refine .upd (k:=(((J.next % 4:Nat):Int),i)) klP hi.hm mp318 fun es' c' hm'=>?_
  refine .nil (.wb hnp ?_)
  refine .fin ?_
  refine .blockNormal (.next (.region ?_))
  refine .add ?_
  refine .move (.nil ?_)
  refine .blobsAdd (bl:=bl2) (g:=gc) (k:=kc) (xs:=cvs[i.toNat].xs) (by rw [hx5];exact hk1) ?_
  have hk3:Kept (kput kv (((J.next % 4:Nat):Int),i) (.slice (some ⟨gc,0,none⟩) 512 kc)) ((.slice (some ⟨gc,0,none⟩) cvs[i.toNat].xs.length kc,cvs[i.toNat].xs) :: bl2) (J.next % 4) ((cvs.map CV.pair).take (i+1).toNat):=by
   have:=Kept.snoc hi.hk hil2 (v:=.slice (some ⟨gc,0,none⟩) 512 kc) (p:=(.slice (some ⟨gc,0,none⟩) cvs[i.toNat].xs.length kc,cvs[i.toNat].xs)) (by rw [hx5,List.getElem_map];rfl)
   rw [show (i+1).toNat=i.toNat+1 from by omega]
   rw [show ((i.toNat:Nat):Int)=i from by omega] at this
   exact this
  refine .to (A:=rowR 3 1 (.slice (some A4) (i.toNat+1) c4) (i.toNat+1) (blocksV ((cvs.map CV.pair).take i.toNat)++[.int .i64 (cvs[i.toNat].k:Int)])) (A':=rowR 3 1 (.slice (some A4) (i.toNat+1) c4) (i+1).toNat (blocksV ((cvs.map CV.pair).take (i+1).toNat))) (fun h hh=>by rw [show (i+1).toNat=i.toNat+1 from by omega,blocksV_take _ _ hil2,List.getElem_map];exact hh) ?_
  exact .back (i+1,.slice (some A4) (i.toNat+1) c4,es',c',kput kv (((J.next % 4:Nat):Int),i) (.slice (some ⟨gc,0,none⟩) 512 kc),(.slice (some ⟨gc,0,none⟩) cvs[i.toNat].xs.length kc,cvs[i.toNat].xs) :: bl2) ⟨by omega,by rw [List.length_map];omega,hm',hk3⟩ (by show ((cvs.length:Int) - (i+1)).toNat < ((cvs.length:Int) - i).toNat;omega)
 ·have hge:¬ i < (cvs.length:Int):=of_decide_eq_false hb
  have hlo:=hi.lo
  have hhi:=hi.hi
  rw [List.length_map] at hhi
  have hie:i=(cvs.length:Int):=by omega
  subst hie
  have hk3:=hi.hk
  have hll:(cvs.map CV.pair).length=cvs.length:=List.length_map ..
  simp only [Int.toNat_natCast] at hk3 ⊢
  rw [List.take_of_length_le (by rw [hll];exact Nat.le_refl _)] at hk3 ⊢
  refine .exit (.thenExit (.thenExit (.blockExit (?_))))
  refine .next (.sr (.assign (.z ?_)))
  refine .ret (?_)
  refine .to (A:=rowR 3 1 ov cvs.length (blocksV (cvs.map CV.pair))) (A':=rowR 3 1 ov (cvs.map CV.pair).length (blocksV (cvs.map CV.pair))) (fun h hh=>by rw [hll];exact hh) ?_
  refine .shutR (JR.opens j d n (J.commit (cvs.map CV.pair))) ⟨es,c,m41,kv,bl2,ov⟩ ⟨hi.hm,hk3,hfit,hp.n1,hp.n2,hp.hg,hnn⟩ ?_
  exact .ret1 (h1:=.tmp (t:=4) rfl) ⟨_,⟨rfl,rfl⟩,Am.auto⟩
structure MI (l:List CV) (i:Int) (es:Array MapEntry) (c:Nat) (kv:List (Int×Value)):Prop where
 lo:0<=i
 hi:i<=l.length
 hm:MapIs intE es c kv
 met:∀ k,kget kv k≠none->∃ a,∃ h:a < l.length,a < i.toNat/\k=(l[a].k:Int)
theorem MI.fresh {n:Nat} {l:List CV} {i:Int} {es:Array MapEntry} {c:Nat} {kv:List (Int×Value)} (h:MI l i es c kv) (hf:Fit n (l.map CV.pair)) (hil:i.toNat < l.length):kget kv (l[i.toNat].k:Int)=none:=by
 cases hk:kget kv (l[i.toNat].k:Int) with
 | none=>rfl
 | some v =>
  obtain ⟨a,ha,hai,hka⟩:=h.met _ (by rw [hk];simp)
  exfalso
  have hnd:=List.pairwise_iff_getElem.1 hf.apart
  have:=hnd a i.toNat (by simpa using ha) (by simpa using hil) hai
  simp only [List.getElem_map] at this
  exact this (by show l[a].k=l[i.toNat].k;omega)
theorem MI.step {l:List CV} {i:Int} {es es':Array MapEntry} {c c':Nat} {kv:List (Int×Value)} (h:MI l i es c kv) (hil:i.toNat < l.length) {v:Value} (hm:MapIs intE es' c' (kput kv (l[i.toNat].k:Int) v)):MI l (i+1) es' c' (kput kv (l[i.toNat].k:Int) v):=by
 have:=h.lo
 refine ⟨by omega,by omega,hm,fun k hk=>?_⟩
 rw [kget_put] at hk
 split at hk
 ·exact ⟨i.toNat,hil,by omega,by assumption⟩
 ·obtain ⟨a,ha,h1,h2⟩:=h.met k hk
  exact ⟨a,ha,by omega,h2⟩
theorem jMay {j d n m c0:Nat} {J:JS} {Rl:HP} {A:Option Addr} {cvs:List CV} (hR:Reads Rl A (chCells cvs)) (hml:cvs.length=m) (hfit:Fit n (cvs.map CV.pair)) :
  Spec Tryz.prog 267 #[.pointer (some ⟨j,0,none⟩),.slice A m c0] [Rl,JR j d n J] fun F v M=>v=okV/\M=[Rl,JR j d n J]++F:=by
 refine Spec.intro Tryz.func267 rfl rfl fun B F=>?_
 simp only [Tryz.ntmps267,List.cons_append,List.nil_append,env0,Nat.reduceAdd]
 refine .openR (JR.opens j d n J) fun x hp=>?_
 simp only [jL,List.cons_append,List.nil_append]
 subst hml
 have hfew:cvs.length<=60:=by simpa using hfit.few
 refine .sr (.assign (.x ?_))
 refine .mkMap fun m8=>?_
 refine .assign (.z (.seq (.sr (.move ?_))))
 refine .lenS ?_ sl309
 refine .move (.z (.block ?_))
 refine .loopA (σ:=Int×Array MapEntry×Nat×List (Int×Value)) (fun s=>[(0,.pointer (some ⟨j,0,none⟩)),(1,.slice A cvs.length c0),(5,.map (some m8)),(9,.slice A cvs.length c0),(10,.int .i64 (cvs.length:Int)),(11,.int .i64 s.1)]) (fun s=>[pt m8 (.map s.2.1 s.2.2.1),Rl,pt j (jO d J.gen J.last x.ov x.mp),rowR 3 1 x.ov J.ch.length (blocksV J.ch),pt x.mp (.map x.es x.c),blobs x.bl,DevR d n J.cur 0]++F) (fun s=>MI cvs s.1 s.2.1 s.2.2.1 s.2.2.2) (fun s=>((cvs.length:Int) - s.1).toNat) (0,#[],0,[]) ⟨by omega,by omega,MapIs.empty _ _,fun k hk=>absurd rfl hk⟩ ?_
 rintro ⟨i,es,c,kv⟩ hi
 refine .sr ?_
 refine .lss ?_
 refine .z (.seq ?_)
 refine .cond rfl (fun hb=>?_) (fun hb=>?_)
 ·have hlt:i < (cvs.length:Int):=of_decide_eq_true hb
  have hlo:=hi.lo
  have hil:i.toNat < cvs.length:=by omega
  have hcl:=chCells_length cvs
  have hhome:=hfit.home cvs[i.toNat].pair (List.mem_map.2 ⟨_,List.getElem_mem hil,rfl⟩)
  have hx5:245<=cvs[i.toNat].k/\cvs[i.toNat].k < n:=⟨hhome.1,hhome.2.1⟩
  have hnew:=hi.fresh hfit hil
  rcases A with _ | ⟨ab,ao,asp⟩
  ·exact absurd hR (fun h=>by have h2:chCells cvs=[]:=h;rw [h2] at hcl;simp at hcl;omega)
  have hsp:asp=none:=hR.1
  subst hsp
  refine .skip (.next (.seq (.block (.sr ?_))))
  refine .idx ?_ so309
  refine .ldAR ?_ agg315 hR (chCells_get cvs i.toNat hil) (by rw [chCells_length];omega)
  refine .alloc z315 fun b7=>?_
  refine .stV ?_ agg315
  refine .z (.seq (.sr (.move ?_)))
  refine .fa ?_ fo315_0
  refine .ld ?_ sc3
  refine .call (hc:=Tryz.call223) (sp:=jHome (n:=n) (t:=0) (cur:=J.cur)) (h:=?_)
  rintro _ _ ⟨rfl,rfl⟩
  refine .cast (d:=18) (u:=.bool true) rfl (congrArg Value.bool (decide_eq_true (by omega))) ?_
  refine .not ?_
  refine .move ?_
  refine .gT ?_
  refine .move ?_
  refine .gT ?_
  refine .fa ?_ fo315_0
  refine .gT ?_
  refine .ld ?_ sc3
  refine .gT ?_
  refine .look klF hi.hm mp288 zv3 ?_
  refine .cast (d:=24) (u:=.int .i64 0) rfl (by rw [hnew];rfl) ?_
  refine .gT ?_
  refine .gtr ?_
  refine .pickF ?_
  refine .move ?_
  refine .gT ?_
  refine .fa ?_ fo315_1
  refine .gT ?_
  refine .ld ?_ sc33
  refine .gT ?_
  refine .lenS ?_ sl33
  refine .gT ?_
  refine .nei ?_
  refine .pickF ?_
  refine .z ?_
  refine .condF rfl rfl ?_
  refine .skip (.next (.region (.move ?_)))
  refine .fa ?_ fo315_0
  refine .ld ?_ sc3
  refine .upd klF hi.hm mp288 fun es_1 c_1 hm_1=>?_
  refine .nil (.blockNormal (.next (.region ?_)))
  refine .add ?_
  refine .move (.nil ?_)
  exact .back (i+1,es_1,c_1,_) (hi.step hil hm_1) (by show ((cvs.length:Int) - (i+1)).toNat < ((cvs.length:Int) - i).toNat;omega)
 ·refine .exit (.thenExit (.thenExit (.blockExit (?_))))
  refine .next (.seq (.sr (.move ?_)))
  refine .lenS ?_ sl309
  refine .gtr ?_
  refine .z ?_
  refine .condF rfl (congrArg Value.bool (by first|simp;done|simp;omega|omega)) ?_
  refine .skip (.next (.sr (.assign (.z ?_))))
  refine .ret (?_)
  refine .shutR (JR.opens j d n J) x hp ?_
  exact .ret1 (h1:=.tmp (t:=4) rfl) ⟨_,⟨rfl,rfl⟩,Am.auto⟩
def JS.commits (J:JS) (l:List (Nat×Bytes)):JS:=if l=[] then J else J.commit l
theorem jCommit {j d n m c0:Nat} {J:JS} {bl:List (Value×Bytes)} {Rl:HP} {A:Option Addr} {cvs:List CV}
  (hR:Reads Rl A (chCells cvs)) (hml:cvs.length=m) (hli:Lie bl cvs) (hfit:Fit n (cvs.map CV.pair)) :
  Spec Tryz.prog 214 #[.pointer (some ⟨j,0,none⟩),.slice A m c0] [Rl,blobs bl,JR j d n J] fun F v M=>v=okV/\M=[Rl,blobs bl,JR j d n (J.commits (cvs.map CV.pair))]++F:=by
 refine Spec.intro Tryz.func214 rfl rfl fun B F=>?_
 simp only [Tryz.ntmps214,List.cons_append,List.nil_append,env0,Nat.reduceAdd]
 rcases cvs with _ | ⟨cv,cvs⟩
 ·have hm0:m=0:=hml.symm
  subst hm0
  refine .sr (.assign (.z (.seq (.sr (.move (.move ?_))))))
  refine .call (hc:=Tryz.call267) (sp:=jMay (n:=n) hR hml hfit) (h:=?_)
  rintro _ _ ⟨rfl,rfl⟩
  simp only [List.cons_append,List.nil_append]
  refine .assign (.x (.move ?_))
  refine .nei ?_
  refine .move ?_
  refine .gT ?_
  refine .move ?_
  refine .gT ?_
  refine .lenS ?_ sl309
  refine .gT ?_
  refine .eqi ?_
  refine .pickF ?_
  refine .z ?_
  refine .condT rfl rfl ?_
  refine .sr (.move (.assign (.z ?_)))
  refine .ret (.thenRet (?_))
  exact .ret1 (h1:=.tmp (t:=4) rfl) ⟨_,⟨rfl,rfl⟩,Am.auto⟩
 ·have hm0:m≠0:=by rw [<- hml];simp
  refine .sr (.assign (.z (.seq (.sr (.move (.move ?_))))))
  refine .call (hc:=Tryz.call267) (sp:=jMay (n:=n) hR hml hfit) (h:=?_)
  rintro _ _ ⟨rfl,rfl⟩
  simp only [List.cons_append,List.nil_append]
  refine .assign (.x (.move ?_))
  refine .nei ?_
  refine .move ?_
  refine .gT ?_
  refine .move ?_
  refine .gT ?_
  refine .lenS ?_ sl309
  refine .gT ?_
  refine .eqi ?_
  refine .pickF ?_
  refine .z ?_
  refine .condF rfl (congrArg Value.bool (by first|simp;done|simp;omega|omega)) ?_
  refine .skip (.next (.sr (.move (.move ?_))))
  refine .call (hc:=Tryz.call268) (sp:=jCommit0 (n:=n) hR hml hli hfit) (h:=?_)
  rintro _ _ ⟨rfl,rfl⟩
  simp only [List.cons_append,List.nil_append]
  refine .assign (.z ?_)
  refine .ret (?_)
  exact .ret1 (h1:=.tmp (t:=4) rfl) ⟨_,⟨rfl,rfl⟩,Am.auto⟩
theorem bdJ (d:Nat) (gn:Nat) (m:Nat):BuildOk Tryz.prog 320 [(0,.pointer (some ⟨d,0,none⟩)),(1,.int .u64 (gn:Int)),(5,.map (some m))] #[.pointer (some ⟨d,0,none⟩),.int .u64 (gn:Int),.int .u64 0,.bool false,.slice none 0 0,.map (some m)]:=fun w=>by kernel_rfl
def NoHead (gen:Nat) (xs:Bytes):Prop:=xs.take 8≠markH ∨ beNat (seg xs 8 8 false)≠gen
theorem le8_lt (xs:Bytes) (p:Nat) (b:Bool):beNat (seg xs p 8 b) < 2 ^ 64:=by
 have h1:=beNat_lt (seg xs p 8 b)
 have h2:(seg xs p 8 b).length<=8:=by
  unfold seg
  cases b<;>simp<;>omega
 have h3:256 ^ (seg xs p 8 b).length<=256 ^ 8:=Nat.pow_le_pow_right (by decide) h2
 omega
theorem Fit.nil (n:Nat):Fit n []:=⟨(fun p h=>by cases h),(by decide),(by simp)⟩
theorem Kept.nil {kv:List ((Int×Int)×Value)} {bl:List (Value×Bytes)} {s:Nat}:Kept kv bl s []:=fun i h=>by cases h
theorem jHeader0 {j d n t gen last mp i:Nat} {ov:Value} {cur:Nat->Bytes} (hi:i<=3) (hn:246<=n) (hno:NoHead gen (cur (slotAt i 0))):Spec Tryz.prog 216 #[.pointer (some ⟨j,0,none⟩),.int .i64 (i:Int)] [pt j (jO d gen last ov mp),DevR d n cur t] fun F v M=>v=.tuple #[.int .u64 0,.slice none 0 0]/\M=[pt j (jO d gen last ov mp),DevR d n cur t]++F:=by
 refine Spec.intro Tryz.func216 rfl rfl fun B F=>?_
 simp only [Tryz.ntmps216,List.cons_append,List.nil_append,env0,Nat.reduceAdd]
 refine .sr (.assign (.assign (.z (.seq ?_))))
 refine .dr ([pt j (jO d gen last ov mp)]) [] 13 mixed .autoJ ?_
 refine .tk 0 rfl .move ?_
 refine .tk 1 rfl .nilCheck ?_
 refine .tk 2 rfl (.fa fo320_0) ?_
 refine .tk 3 rfl (.ld sc22) ?_
 refine .tk 4 rfl .move ?_
 refine .tk 5 rfl (.build (bdPlace _ _)) ?_
 refine .on 6 rfl fun hnp=>?_
 refine .call (hc:=Tryz.call219) (sp:=placeAt (a:=i) (b:=0) (by omega)) (h:=?_)
 rintro _ _ ⟨rfl,rfl⟩
 refine .nil (.wa hnp ?_)
 refine .on 7 rfl fun hnp=>?_
 refine .call (hc:=Tryz.call218) (sp:=devRead (n:=n) (t:=t) (k:=slotAt i 0) (cur:=cur) (by unfold slotAt;omega)) (h:=?_)
 rintro _ _ ⟨gb,q,rfl,⟨hq1,hq2,hlen⟩,rfl⟩
 refine .nil (.wa hnp ?_)
 refine .tk 8 rfl .move ?_
 refine .tk 9 rfl .extract ?_
 refine .tk 10 rfl .extract ?_
 refine .tk 11 rfl .assign ?_
 refine .tk 12 rfl .assign ?_
 refine .fin ?_
 refine .next (.seq (.seq ?_))
 by_cases hmk:(cur (slotAt i 0)).take 8=markH
 ·rcases hno with hno | hno
  ·exact absurd hmk hno
  refine .dr ([buf gb 5 q (bvs (cur (slotAt i 0))),pt j (jO d gen last ov mp)]) [] 17 mixed .autoJ ?_
  refine .tk 0 rfl .move ?_
  refine .tk 1 rfl .nei ?_
  refine .tk 2 rfl .move ?_
  refine .tn 3 rfl .move ?_
  refine .tn 4 rfl (.slcH so33) ?_
  refine .tn 5 rfl (Qt.cvtBS (R:=buf gb 5 q (bvs (cur (slotAt i 0)))) (xs:=(cur (slotAt i 0)).take 8) by33 st9 (by rw [bvs_take];exact Reads.buf.take 8) (by rw [List.length_take,hlen])) ?_
  refine .tn 6 rfl ((Qt.neS ((cur (slotAt i 0)).take 8) markH).eq (v':=.bool false) (by rw [decide_eq_true hmk];rfl)) ?_
  refine .tk 7 rfl .pickF ?_
  refine .tk 8 rfl .move ?_
  refine .tn 9 rfl .move ?_
  refine .tn 11 rfl .move ?_
  refine .tn 12 rfl .nilCheck ?_
  refine .tn 13 rfl (.fa fo320_1) ?_
  refine .tn 14 rfl (.ld sc134) ?_
  refine .on 10 rfl fun hnp=>?_
  refine .gT ?_
  refine .call (hc:=Tryz.call269) (sp:=jGet (k:=1) Reads.buf hlen (by decide) (by decide) (by decide)) (h:=?_)
  rintro _ _ ⟨rfl,rfl⟩
  refine .nil (.wa hnp ?_)
  refine .tn 15 rfl ((Qt.nei).eq (v':=.bool true) (by rw [decide_eq_false (fun h=>hno (by exact_mod_cast h))];rfl)) ?_
  refine .tk 16 rfl .pickF ?_
  refine .fin ?_
  refine .next ?_
  refine .condT rfl rfl ?_
  refine .sr (.assign (.assign (.z ?_)))
  refine .ret (.thenRet (?_))
  exact .ret2 (h1:=.tmp (t:=4) rfl) (h2:=.tmp (t:=5) rfl) ⟨_,⟨rfl,rfl⟩,Am.auto⟩
 ·refine .dr ([buf gb 5 q (bvs (cur (slotAt i 0))),pt j (jO d gen last ov mp)]) [] 17 mixed .autoJ ?_
  refine .tk 0 rfl .move ?_
  refine .tk 1 rfl .nei ?_
  refine .tk 2 rfl .move ?_
  refine .tn 3 rfl .move ?_
  refine .tn 4 rfl (.slcH so33) ?_
  refine .tn 5 rfl (Qt.cvtBS (R:=buf gb 5 q (bvs (cur (slotAt i 0)))) (xs:=(cur (slotAt i 0)).take 8) by33 st9 (by rw [bvs_take];exact Reads.buf.take 8) (by rw [List.length_take,hlen])) ?_
  refine .tn 6 rfl ((Qt.neS ((cur (slotAt i 0)).take 8) markH).eq (v':=.bool true) (by rw [decide_eq_false hmk];rfl)) ?_
  refine .tk 7 rfl .pickF ?_
  refine .tk 8 rfl .move ?_
  refine .tf 9 rfl ?_
  refine .tf 10 rfl ?_
  refine .tf 11 rfl ?_
  refine .tf 12 rfl ?_
  refine .tf 13 rfl ?_
  refine .tf 14 rfl ?_
  refine .tf 15 rfl ?_
  refine .tk 16 rfl .pickT ?_
  refine .fin ?_
  refine .next ?_
  refine .condT rfl rfl ?_
  refine .sr (.assign (.assign (.z ?_)))
  refine .ret (.thenRet (?_))
  exact .ret2 (h1:=.tmp (t:=4) rfl) (h2:=.tmp (t:=5) rfl) ⟨_,⟨rfl,rfl⟩,Am.auto⟩
theorem jOpen {d n:Nat} {cur:Nat->Bytes} (hn:246<=n) (hn2:n<=65536) (hmg:(cur 0).take 8=magicJ) (hno:∀ i,i<=3->NoHead (beNat (seg (cur 0) 8 8 false)) (cur (slotAt i 0))) :
  Spec Tryz.prog 140 #[.pointer (some ⟨d,0,none⟩)] [DevR d n cur 0] fun F v M=>∃ j,v=.tuple #[.pointer (some ⟨j,0,none⟩),.int .i64 0]/\M=JR j d n ⟨beNat (seg (cur 0) 8 8 false),0,[],cur⟩ :: F:=by
 refine Spec.intro Tryz.func140 rfl rfl fun B F=>?_
 simp only [Tryz.ntmps140,List.cons_append,List.nil_append,env0,Nat.reduceAdd]
 refine .sr (.assign (.assign (.z (.seq (.sr (.move ?_))))))
 refine .call (hc:=Tryz.call130) (sp:=devBlocksR (n:=n) (t:=0) (cur:=cur)) (h:=?_)
 rintro _ _ ⟨rfl,rfl⟩
 refine .lss ?_
 refine .z ?_
 refine .condF rfl (congrArg Value.bool (by first|simp;done|simp;omega|omega)) ?_
 refine .skip (.next (.sr (.move ?_)))
 refine .call (hc:=Tryz.call215) (sp:=jFirst (n:=n) (t:=0) (cur:=cur) (by omega)) (h:=?_)
 rintro _ _ ⟨rfl,rfl⟩
 refine .move ?_
 refine .extract ?_
 refine .extract ?_
 refine .cast (d:=20) (u:=.bool true) rfl (congrArg Value.bool (decide_eq_true hmg)) ?_
 refine .assign (.assign (.z (.seq (.sr (.move ?_)))))
 refine .not ?_
 refine .z ?_
 refine .condF rfl rfl ?_
 refine .skip (.next (.sr (.move (.move ?_))))
 refine .mkMap fun m25=>?_
 refine .build ?_ (bdJ _ _ _)
 refine .box fun b27=>?_
 refine .assign (.z (.seq (.sr (.move (.z (.block ?_))))))
 refine .blobsNil ?_
 refine .emp (rowR.nil (e:=3) (size:=1) _) ?_
 refine .loopN 5 (RC.succ ?_)
 refine .sr ?_
 refine .lss ?_
 refine .z (.seq ?_)
 refine .condT rfl rfl ?_
 refine .skip (.next (.seq (.block (.sr (.move (.assign (.x (.move (.move ?_)))))))))
 refine .call (hc:=Tryz.call216) (sp:=jHeader0 (i:=0) (n:=n) (t:=0) (gen:=beNat (seg (cur 0) 8 8 false)) (last:=0) (mp:=m25) (ov:=.slice none 0 0) (cur:=cur) (by decide) hn (hno 0 (by decide))) (h:=?_)
 rintro _ _ ⟨rfl,rfl⟩
 simp only [List.cons_append,List.nil_append]
 refine .move ?_
 refine .extract ?_
 refine .extract ?_
 refine .assign (.assign (.x (.move (.move ?_))))
 refine .nilCheck ?_
 refine .fa ?_ fo320_2
 refine .ld ?_ sc134
 refine .gtr ?_
 refine .z ?_
 refine .condF rfl rfl ?_
 refine .skip (.blockNormal (.next (.region ?_)))
 refine .add ?_
 refine .move (.nil ?_)
 refine .again (RC.succ ?_)
 refine .sr ?_
 refine .lss ?_
 refine .z (.seq ?_)
 refine .condT rfl rfl ?_
 refine .skip (.next (.seq (.block (.sr (.move (.assign (.x (.move (.move ?_)))))))))
 refine .call (hc:=Tryz.call216) (sp:=jHeader0 (i:=1) (n:=n) (t:=0) (gen:=beNat (seg (cur 0) 8 8 false)) (last:=0) (mp:=m25) (ov:=.slice none 0 0) (cur:=cur) (by decide) hn (hno 1 (by decide))) (h:=?_)
 rintro _ _ ⟨rfl,rfl⟩
 simp only [List.cons_append,List.nil_append]
 refine .move ?_
 refine .extract ?_
 refine .extract ?_
 refine .assign (.assign (.x (.move (.move ?_))))
 refine .nilCheck ?_
 refine .fa ?_ fo320_2
 refine .ld ?_ sc134
 refine .gtr ?_
 refine .z ?_
 refine .condF rfl rfl ?_
 refine .skip (.blockNormal (.next (.region ?_)))
 refine .add ?_
 refine .move (.nil ?_)
 refine .again (RC.succ ?_)
 refine .sr ?_
 refine .lss ?_
 refine .z (.seq ?_)
 refine .condT rfl rfl ?_
 refine .skip (.next (.seq (.block (.sr (.move (.assign (.x (.move (.move ?_)))))))))
 refine .call (hc:=Tryz.call216) (sp:=jHeader0 (i:=2) (n:=n) (t:=0) (gen:=beNat (seg (cur 0) 8 8 false)) (last:=0) (mp:=m25) (ov:=.slice none 0 0) (cur:=cur) (by decide) hn (hno 2 (by decide))) (h:=?_)
 rintro _ _ ⟨rfl,rfl⟩
 simp only [List.cons_append,List.nil_append]
 refine .move ?_
 refine .extract ?_
 refine .extract ?_
 refine .assign (.assign (.x (.move (.move ?_))))
 refine .nilCheck ?_
 refine .fa ?_ fo320_2
 refine .ld ?_ sc134
 refine .gtr ?_
 refine .z ?_
 refine .condF rfl rfl ?_
 refine .skip (.blockNormal (.next (.region ?_)))
 refine .add ?_
 refine .move (.nil ?_)
 refine .again (RC.succ ?_)
 refine .sr ?_
 refine .lss ?_
 refine .z (.seq ?_)
 refine .condT rfl rfl ?_
 refine .skip (.next (.seq (.block (.sr (.move (.assign (.x (.move (.move ?_)))))))))
 refine .call (hc:=Tryz.call216) (sp:=jHeader0 (i:=3) (n:=n) (t:=0) (gen:=beNat (seg (cur 0) 8 8 false)) (last:=0) (mp:=m25) (ov:=.slice none 0 0) (cur:=cur) (by decide) hn (hno 3 (by decide))) (h:=?_)
 rintro _ _ ⟨rfl,rfl⟩
 simp only [List.cons_append,List.nil_append]
 refine .move ?_
 refine .extract ?_
 refine .extract ?_
 refine .assign (.assign (.x (.move (.move ?_))))
 refine .nilCheck ?_
 refine .fa ?_ fo320_2
 refine .ld ?_ sc134
 refine .gtr ?_
 refine .z ?_
 refine .condF rfl rfl ?_
 refine .skip (.blockNormal (.next (.region ?_)))
 refine .add ?_
 refine .move (.nil ?_)
 refine .again (RC.succ ?_)
 refine .sr ?_
 refine .lss ?_
 refine .z (.seq ?_)
 refine .condF rfl rfl ?_
 refine .exit (.thenExit (.thenExit (.blockExit (?_))))
 refine .next (.seq (.sr (.move ?_)))
 refine .nilCheck ?_
 refine .fa ?_ fo320_4
 refine .ld ?_ sc80
 refine .lenS ?_ sl80
 refine .move (.z (.block ?_))
 refine .loopN 1 (RC.succ ?_)
 refine .sr ?_
 refine .lss ?_
 refine .z (.seq ?_)
 refine .condF rfl (congrArg Value.bool (by first|simp;done|simp;omega|omega)) ?_
 refine .exit (.thenExit (.thenExit (.blockExit (?_))))
 refine .next (.seq (.sr (.move ?_)))
 refine .makeFuncB ?_
 refine .move ?_
 refine .makeFuncB ?_
 refine .buildS (fun b88=>?_) (bs220_2 _ _ _ _ _ _)
 refine .call (hc:=Tryz.call220) (sp:=jTriesC (Chain.cons (I:=[pt b27 (jO d (beNat (seg (cur 0) 8 8 false)) 0 (.slice none 0 0) m25),rowR 3 1 (.slice none 0 0) 0 (blocksV []),pt m25 (.map #[] 0),blobs [],DevR d n cur 0]) (goesSettle (ch:=[]) (kv:=[]) (MapIs.empty _ _) Kept.nil (Fit.nil n) (t:=0) (cur:=cur) (by decide)).sub (.cons (goesFlush (d:=d) (n:=n) (t:=0) (cur:=cur)).sub .nil)) Reads.pt rfl (Nat.le_of_ble_eq_true rfl)) (h:=?_)
 rintro _ _ ⟨rfl,rfl⟩
 simp only [List.cons_append,List.nil_append]
 refine .assign (.x (.move ?_))
 refine .nei ?_
 refine .z ?_
 refine .condF rfl rfl ?_
 refine .skip (.next (.sr (.move (.move ?_))))
 refine .mkMap fun m95=>?_
 refine .nilCheck ?_
 refine .fa ?_ fo320_4
 refine .st ?_ sc80
 refine .nilCheck ?_
 refine .fa ?_ fo320_5
 refine .st ?_ sc318
 refine .x (.move (.assign (.assign (.z ?_))))
 refine .ret (?_)
 refine .shutR (JR.opens b27 d n ⟨beNat (seg (cur 0) 8 8 false),0,[],cur⟩) ⟨#[],0,m95,[],[],.slice none 0 0⟩ ⟨MapIs.empty _ _,Kept.nil,Fit.nil n,hn,hn2,le8_lt _ _ _,(by decide:(0:Nat) < 2 ^ 64)⟩ ?_
 exact .ret2 (h1:=.tmp (t:=2) rfl) (h2:=.tmp (t:=3) rfl) ⟨_,⟨_,rfl,rfl⟩,Am.auto⟩
theorem bdC (j:Nat) (m:Nat):BuildOk Tryz.prog 300 [(0,.pointer (some ⟨j,0,none⟩)),(3,.map (some m))] #[.pointer (some ⟨j,0,none⟩),.bool false,.bool false,.map (some m)]:=fun w=>by kernel_rfl
theorem klI:KeyLaw Tryz.prog 3 intE:=klInt (by kernel_rfl)
def wkv (l:List (Nat×Bytes)):List (Int×Value):=l.map fun p=>((p.1:Int),arrV p.2)
theorem wkv_length (l:List (Nat×Bytes)):(wkv l).length=l.length:=by simp [wkv]
theorem wkv_get (l:List (Nat×Bytes)) (k:Nat):kget (wkv l) (k:Int)=(kget l k).map arrV:=by
 induction l with
 | nil=>rfl
 | cons p l ih =>
  obtain ⟨a,xs⟩:=p
  simp only [wkv,List.map_cons,kget]
  by_cases h:k=a
  ·subst h;simp
  ·rw [if_neg (by omega),if_neg h];exact ih
theorem wkv_put (l:List (Nat×Bytes)) (k:Nat) (xs:Bytes):kput (wkv l) (k:Int) (arrV xs)=wkv (kput l k xs):=by
 induction l with
 | nil=>rfl
 | cons p l ih =>
  obtain ⟨a,ys⟩:=p
  simp only [wkv,List.map_cons,kput]
  by_cases h:k=a
  ·subst h;simp
  ·rw [if_neg (by omega),if_neg h,List.map_cons];congr 1
structure CS where
 J:JS
 W:List (Nat×Bytes)
 op:Bool
 ov:Bool
def CS.view (S:CS) (k:Nat):Bytes:=(kget S.W k).getD (S.J.view k)
structure CX where
 m:Nat
 es:Array MapEntry
 c:Nat
structure CP (n:Nat) (S:CS) (x:CX):Prop where
 hm:MapIs intE x.es x.c (wkv S.W)
 hf:Fit n S.W
 n1:246<=n
 n2:n<=65536
def cL (c j d n:Nat) (S:CS) (x:CX):List HP:=[pt c (cacheO (some j) S.op S.ov x.m),pt x.m (.map x.es x.c),JR j d n S.J]
def CR (c j d n:Nat) (S:CS):HP:=fun h=>∃ x,CP n S x/\star (cL c j d n S x) h
theorem CR.opens (c j d n:Nat) (S:CS):Opens (CR c j d n S) (CP n S) (cL c j d n S):=⟨fun h hh=>hh,fun x hp h hh=>⟨x,hp,hh⟩⟩
attribute [irreducible] CR
theorem CP.get {n:Nat} {S:CS} {x:CX} (hp:CP n S x) (k:Nat):∃ ys:Bytes,(kget (wkv S.W) (k:Int)).getD (.agg (Array.replicate 512 (.int .u8 0)))=arrV ys/\ys.length=512/\((kget S.W k=some ys/\(kget (wkv S.W) (k:Int)).isSome=true) ∨ (kget S.W k=none/\(kget (wkv S.W) (k:Int)).isSome=false)):=by
 rw [wkv_get]
 cases h:kget S.W k with
 | none=>exact ⟨List.replicate 512 0,zeros_arr,List.length_replicate,.inr ⟨rfl,rfl⟩⟩
 | some ys=>exact ⟨ys,rfl,(hp.hf.home _ ((kget_mem hp.hf.apart).1 h)).2.2,.inl ⟨rfl,rfl⟩⟩
theorem Fit.put {n:Nat} {l:List (Nat×Bytes)} (h:Fit n l) {k:Nat} {xs:Bytes} (h1:245<=k) (h2:k < n) (h3:xs.length=512) (h4:(kget l k).isSome=true ∨ l.length < 60):Fit n (kput l k xs):=by
 refine ⟨?_,?_,kput_nodup h.apart _ _⟩
 ·have key:∀ l:List (Nat×Bytes),(∀ p∈l,245<=p.1/\p.1 < n/\p.2.length=512)->∀ p∈kput l k xs,245<=p.1/\p.1 < n/\p.2.length=512:=by
   intro l
   induction l with
   | nil=>intro _ p hp;simp only [kput,List.mem_singleton] at hp;subst hp;exact ⟨h1,h2,h3⟩
   | cons q l ih =>
    intro hq p hp
    obtain ⟨a,ys⟩:=q
    simp only [kput] at hp
    split at hp
    ·rcases List.mem_cons.1 hp with rfl | hp
     ·have:=hq (a,ys) (List.mem_cons_self ..)
      exact ⟨this.1,this.2.1,h3⟩
     ·exact hq p (List.mem_cons_of_mem _ hp)
    ·rcases List.mem_cons.1 hp with rfl | hp
     ·exact hq _ (List.mem_cons_self ..)
     ·exact ih (fun p hp=>hq p (List.mem_cons_of_mem _ hp)) p hp
  exact key l h.home
 ·rw [kput_length]
  have:=h.few
  rcases h4 with h4 | h4
  ·rw [if_pos h4];exact this
  ·split<;>omega
theorem cNew {j d n:Nat} {J:JS} (hn:246<=n) (hn2:n<=65536):Spec Tryz.prog 201 #[.pointer (some ⟨j,0,none⟩)] [JR j d n J] fun F v M=>∃ c,v=.pointer (some ⟨c,0,none⟩)/\M=CR c j d n ⟨J,[],false,false⟩ :: F:=by
 refine Spec.intro Tryz.func201 rfl rfl fun B F=>?_
 simp only [Tryz.ntmps201,List.cons_append,List.nil_append,env0,Nat.reduceAdd]
 refine .sr (.assign (.x (.move ?_)))
 refine .mkMap fun m4=>?_
 refine .build ?_ (bdC _ _)
 refine .box fun b6=>?_
 refine .assign (.z ?_)
 refine .ret (?_)
 refine .shutR (CR.opens b6 j d n ⟨J,[],false,false⟩) ⟨m4,#[],0⟩ ⟨MapIs.empty _ _,Fit.nil n,hn,hn2⟩ ?_
 exact .ret1 (h1:=.tmp (t:=2) rfl) ⟨_,⟨_,rfl,rfl⟩,Am.auto⟩
theorem cReady {c j m:Nat} {op ov:Bool}:Spec Tryz.prog 204 #[.pointer (some ⟨c,0,none⟩)] [pt c (cacheO (some j) op ov m)] fun F v M=>v=.bool true/\M=pt c (cacheO (some j) op ov m) :: F:=by
 refine Spec.intro Tryz.func204 rfl rfl fun B F=>?_
 simp only [Tryz.ntmps204,List.cons_append,List.nil_append,env0,Nat.reduceAdd]
 refine .sr (.assign (.x (.move ?_)))
 refine .neNil ?_ ptr124
 refine .move ?_
 refine .gT ?_
 refine .move ?_
 refine .gT ?_
 refine .nilCheck ?_
 refine .gT ?_
 refine .fa ?_ fo300_0
 refine .gT ?_
 refine .ld ?_ sc215
 refine .gT ?_
 refine .neNil ?_ ptr215
 refine .pickT ?_
 refine .assign (.z ?_)
 refine .ret (?_)
 exact .ret1 (h1:=.tmp (t:=2) rfl) ⟨_,⟨rfl,rfl⟩,Am.auto⟩
theorem cOpenR {c j d n:Nat} {S:CS}:Spec Tryz.prog 205 #[.pointer (some ⟨c,0,none⟩)] [CR c j d n S] fun F v M=>v=.bool S.op/\M=CR c j d n S :: F:=by
 refine Spec.intro Tryz.func205 rfl rfl fun B F=>?_
 simp only [Tryz.ntmps205,List.cons_append,List.nil_append,env0,Nat.reduceAdd]
 refine .openR (CR.opens c j d n S) fun x hp=>?_
 simp only [cL,List.cons_append,List.nil_append]
 refine .sr (.assign (.x (.move ?_)))
 refine .neNil ?_ ptr124
 refine .move ?_
 refine .gT ?_
 refine .move ?_
 refine .gT ?_
 refine .nilCheck ?_
 refine .gT ?_
 refine .fa ?_ fo300_1
 refine .gT ?_
 refine .ld ?_ sc4
 refine .pickT ?_
 refine .assign (.z ?_)
 refine .ret (?_)
 refine .shutR (CR.opens c j d n S) x hp ?_
 exact .ret1 (h1:=.tmp (t:=2) rfl) ⟨_,⟨rfl,rfl⟩,Am.auto⟩
theorem cBegin {c j d n:Nat} {S:CS} (hop:S.op=false):Spec Tryz.prog 133 #[.pointer (some ⟨c,0,none⟩)] [CR c j d n S] fun F v M=>v=okV/\M=CR c j d n ⟨S.J,S.W,true,false⟩ :: F:=by
 refine Spec.intro Tryz.func133 rfl rfl fun B F=>?_
 simp only [Tryz.ntmps133,List.cons_append,List.nil_append,env0,Nat.reduceAdd]
 refine .openR (CR.opens c j d n S) fun x hp=>?_
 simp only [cL,List.cons_append,List.nil_append]
 refine .sr (.assign (.z (.seq (.sr (.move ?_)))))
 refine .call (hc:=Tryz.call204) (sp:=cReady) (h:=?_)
 rintro _ _ ⟨rfl,rfl⟩
 refine .not ?_
 refine .move ?_
 refine .gT ?_
 refine .move ?_
 refine .gT ?_
 refine .nilCheck ?_
 refine .gT ?_
 refine .fa ?_ fo300_1
 refine .gT ?_
 refine .ld ?_ sc4
 refine .cast (d:=10) (u:=.bool false) rfl (congrArg Value.bool hop) ?_
 refine .pickF ?_
 refine .z ?_
 refine .condF rfl rfl ?_
 refine .skip (.next (.sr (.move (.move ?_))))
 refine .nilCheck ?_
 refine .fa ?_ fo300_1
 refine .st ?_ sc4
 refine .nilCheck ?_
 refine .fa ?_ fo300_2
 refine .st ?_ sc4
 refine .x (.assign (.z ?_))
 refine .ret (?_)
 refine .shutR (CR.opens c j d n ⟨S.J,S.W,true,false⟩) x ⟨hp.hm,hp.hf,hp.n1,hp.n2⟩ ?_
 exact .ret1 (h1:=.tmp (t:=2) rfl) ⟨_,⟨rfl,rfl⟩,Am.auto⟩
theorem cDone {c j m cc:Nat} {op ov:Bool} {es:Array MapEntry}:Spec Tryz.prog 213 #[.pointer (some ⟨c,0,none⟩)] [pt c (cacheO (some j) op ov m),pt m (.map es cc)] fun F v M=>v=.tuple #[]/\M=pt c (cacheO (some j) false ov m) :: pt m (.map #[] cc) :: F:=by
 refine Spec.intro Tryz.func213 rfl rfl fun B F=>?_
 simp only [Tryz.ntmps213,List.cons_append,List.nil_append,env0,Nat.reduceAdd]
 refine .sr (.move ?_)
 refine .nilCheck ?_
 refine .fa ?_ fo300_1
 refine .st ?_ sc4
 refine .y (.move ?_)
 refine .nilCheck ?_
 refine .fa ?_ fo300_3
 refine .ld ?_ sc252
 refine .clearM ?_ mp252
 refine .nil ?_
 exact .ret0 ⟨_,⟨rfl,rfl⟩,Am.auto⟩
theorem cAbort {c j d n:Nat} {S:CS} (hop:S.op=true):Spec Tryz.prog 170 #[.pointer (some ⟨c,0,none⟩)] [CR c j d n S] fun F v M=>v=okV/\M=CR c j d n ⟨S.J,[],false,S.ov⟩ :: F:=by
 refine Spec.intro Tryz.func170 rfl rfl fun B F=>?_
 simp only [Tryz.ntmps170,List.cons_append,List.nil_append,env0,Nat.reduceAdd]
 refine .openR (CR.opens c j d n S) fun x hp=>?_
 simp only [cL,List.cons_append,List.nil_append]
 refine .sr (.assign (.z (.seq (.sr (.move ?_)))))
 refine .call (hc:=Tryz.call205) (sp:=cacheOpen) (h:=?_)
 rintro _ _ ⟨rfl,rfl⟩
 refine .cast (d:=4) (u:=.bool true) rfl (congrArg Value.bool hop) ?_
 refine .not ?_
 refine .z ?_
 refine .condF rfl rfl ?_
 refine .skip (.next (.sr (.move ?_)))
 refine .call (hc:=Tryz.call213) (sp:=cDone) (h:=?_)
 rintro _ _ ⟨rfl,rfl⟩
 refine .x (.assign (.z ?_))
 refine .ret (?_)
 refine .shutR (CR.opens c j d n ⟨S.J,[],false,S.ov⟩) ⟨x.m,#[],x.c⟩ ⟨MapIs.empty _ _,Fit.nil n,hp.n1,hp.n2⟩ ?_
 exact .ret1 (h1:=.tmp (t:=2) rfl) ⟨_,⟨rfl,rfl⟩,Am.auto⟩
theorem cRead {c j d n k:Nat} {S:CS} (h5:245<=k) (hkn:k < n):Spec Tryz.prog 183 #[.pointer (some ⟨c,0,none⟩),.int .i64 (k:Int)] [CR c j d n S] fun F v M=>∃ g q el,v=.tuple #[.slice (some ⟨g,0,none⟩) 512 q,.int .i64 0]/\(512<=q/\q<=maxLen/\(S.view k).length=512)/\M=buf g el q (bvs (S.view k)) :: CR c j d n S :: F:=by
 refine Spec.intro Tryz.func183 rfl rfl fun B F=>?_
 simp only [Tryz.ntmps183,List.cons_append,List.nil_append,env0,Nat.reduceAdd]
 refine .openR (CR.opens c j d n S) fun x hp=>?_
 simp only [cL,List.cons_append,List.nil_append]
 obtain ⟨ys,hys,hy5,hcase⟩:=hp.get k
 refine .sr (.assign (.assign (.z (.seq (.sr (.move ?_))))))
 refine .call (hc:=Tryz.call204) (sp:=cReady) (h:=?_)
 rintro _ _ ⟨rfl,rfl⟩
 refine .not ?_
 refine .z ?_
 refine .condF rfl rfl ?_
 refine .skip (.next (.seq (.sr (.move ?_))))
 refine .nilCheck ?_
 refine .fa ?_ fo300_3
 refine .ld ?_ sc252
 refine .move ?_
 refine .lookOk klI hp.hm mp252 zv301 ?_
 refine .move ?_
 refine .extract ?_
 refine .cast (d:=18) rfl hys ?_
 refine .extract ?_
 refine .alloc z301 fun b6=>?_
 refine .stArr (cs:=Array.replicate 512 (.int .u8 0)) ?_ agg301 hy5 (by decide) Array.size_replicate
 refine .assign (.x (.move (.z ?_)))
 refine .cond rfl (fun hb=>?_) (fun hb=>?_)
 ·have hview:S.view k=ys:=by rcases hcase with ⟨h1,h2⟩ | ⟨h1,h2⟩;(unfold CS.view;rw [h1];rfl);(rw [h2] at hb;cases hb)
  refine .sr ?_
  refine .slcArr ?_ un301 (by kernel_rfl)
  refine .assign (.assign (.z ?_))
  refine .ret (.thenRet (?_))
  refine .shutR (CR.opens c j d n S) x hp ?_
  rw [<- hview] at hy5 ⊢
  exact .ret2 (h1:=.tmp (t:=4) rfl) (h2:=.tmp (t:=5) rfl) ⟨_,⟨_,_,_,rfl,⟨Nat.le_refl 512,(by decide:512<=maxLen),hy5⟩,rfl⟩,Am.auto⟩
 ·have hview:S.view k=S.J.view k:=by rcases hcase with ⟨h1,h2⟩ | ⟨h1,h2⟩;(rw [h2] at hb;cases hb);(unfold CS.view;rw [h1];rfl)
  refine .skip (.next (.sr (.move ?_)))
  refine .nilCheck ?_
  refine .fa ?_ fo300_0
  refine .ld ?_ sc215
  refine .move ?_
  refine .call (hc:=Tryz.call141) (sp:=jRead (J:=S.J) (n:=n) h5 hkn) (h:=?_)
  rintro _ _ ⟨gb,q,rfl,⟨hq1,hq2,hl5⟩,rfl⟩
  refine .extract ?_
  refine .extract ?_
  refine .assign (.assign (.z ?_))
  refine .ret (?_)
  rw [<- hview] at hl5 ⊢
  refine .shutR (CR.opens c j d n S) x hp ?_
  exact .ret2 (h1:=.tmp (t:=4) rfl) (h2:=.tmp (t:=5) rfl) ⟨_,⟨_,_,_,rfl,⟨hq1,hq2,hl5⟩,rfl⟩,Am.auto⟩
theorem cWrite {c j d n k m cc:Nat} {S:CS} {R:HP} {A:Addr} {xs:Bytes} (hop:S.op=true) (h5:245<=k) (hkn:k < n) (hR:Reads R (some A) (bvs xs)) (hx:xs.length=m) (hm5:m=512) (hroom:(kget S.W k).isSome=true ∨ S.W.length < 60):Spec Tryz.prog 135 #[.pointer (some ⟨c,0,none⟩),.int .i64 (k:Int),.slice (some A) m cc] [CR c j d n S,R] fun F v M=>v=okV/\M=CR c j d n ⟨S.J,kput S.W k xs,true,S.ov⟩ :: R :: F:=by
 refine Spec.intro Tryz.func135 rfl rfl fun B F=>?_
 simp only [Tryz.ntmps135,List.cons_append,List.nil_append,env0,Nat.reduceAdd]
 subst hm5
 obtain ⟨ab,ao,asp⟩:=A
 have hsp:asp=none:=hR.1
 subst hsp
 refine .openR (CR.opens c j d n S) fun x hp=>?_
 simp only [cL,List.cons_append,List.nil_append]
 obtain ⟨ys,hys,hy5,hcase⟩:=hp.get k
 have hes:x.es.size=S.W.length:=by rw [hp.hm.length,wkv_length]
 refine .sr (.assign (.z (.seq (.sr (.move ?_)))))
 refine .call (hc:=Tryz.call205) (sp:=cacheOpen) (h:=?_)
 rintro _ _ ⟨rfl,rfl⟩
 refine .cast (d:=12) (u:=.bool true) rfl (congrArg Value.bool hop) ?_
 refine .not ?_
 refine .z ?_
 refine .condF rfl rfl ?_
 refine .skip (.next (.seq (.sr (.move ?_))))
 refine .nilCheck ?_
 refine .fa ?_ fo300_0
 refine .ld ?_ sc215
 refine .move ?_
 refine .call (hc:=Tryz.call141) (sp:=jRead (J:=S.J) (n:=n) h5 hkn) (h:=?_)
 rintro _ _ ⟨gb,q,rfl,⟨hq1,hq2,hl5⟩,rfl⟩
 refine .move ?_
 refine .extract ?_
 refine .extract ?_
 refine .assign (.assign (.x (.move ?_)))
 refine .nei ?_
 refine .move ?_
 refine .gT ?_
 refine .move ?_
 refine .gT ?_
 refine .lenS ?_ sl33
 refine .gT ?_
 refine .nei ?_
 refine .pickF ?_
 refine .z ?_
 refine .condF rfl rfl ?_
 refine .skip (.next (.seq (.sr (.move ?_))))
 refine .nilCheck ?_
 refine .fa ?_ fo300_3
 refine .ld ?_ sc252
 refine .move ?_
 refine .lookOk klI hp.hm mp252 zv301 ?_
 refine .move ?_
 refine .extract ?_
 refine .cast (d:=37) rfl hys ?_
 refine .extract ?_
 refine .alloc z301 fun b9=>?_
 refine .stArr (cs:=Array.replicate 512 (.int .u8 0)) ?_ agg301 hy5 (by decide) Array.size_replicate
 refine .assign (.x (.move ?_))
 refine .not ?_
 refine .move ?_
 rcases hcase with ⟨hno,hss⟩ | ⟨hno,hss⟩
 ·refine .cast (d:=41) (u:=.bool false) rfl (congrArg (fun b=>Value.bool (!b)) hss) ?_
  refine .gF ?_
  refine .gF ?_
  refine .gF ?_
  refine .gF ?_
  refine .gF ?_
  refine .gF ?_
  refine .pickF ?_
  refine .z ?_
  refine .condF rfl rfl ?_
  refine .skip (.next (.seq ?_))
  refine .dr ([pt c (cacheO (some j) S.op S.ov x.m),R]) [8] 9 mixed .autoJ ?_
  refine .tk 0 rfl .move ?_
  refine .tk 1 rfl .nilCheck ?_
  refine .tk 2 rfl (.fa fo300_3) ?_
  refine .tk 3 rfl (.ld sc252) ?_
  refine .tk 4 rfl .move ?_
  refine .tk 5 rfl .move ?_
  refine .tk 6 rfl (.toArr un301) ?_
  refine .tk 7 rfl (Qt.ldAR (i:=0) (us:=bvs xs) agg301 hR (by rw [List.drop_zero];exact List.take_of_length_le (by rw [bvs_length,hx];exact Nat.le_refl _)) (by rw [bvs_length,hx];exact Nat.le_refl _)) ?_
  refine .on 8 rfl fun hnp=>?_
  refine .upd (k:=(k:Int)) klI hp.hm mp252 fun es_1 c_1 hm_1=>?_
  rw [show Value.agg (bvs xs).toArray=arrV xs from rfl,wkv_put] at hm_1
  refine .nil (.wb hnp ?_)
  refine .fin ?_
  refine .next (.sr (.assign (.z ?_)))
  refine .ret (?_)
  refine .to (A:=pt c (cacheO (some j) S.op S.ov x.m)) (A':=pt c (cacheO (some j) true S.ov x.m)) (fun h hh=>by rw [<- hop];exact hh) ?_
  refine .shutR (CR.opens c j d n ⟨S.J,kput S.W k xs,true,S.ov⟩) ⟨x.m,es_1,c_1⟩ ⟨hm_1,hp.hf.put h5 hkn hx hroom,hp.n1,hp.n2⟩ ?_
  exact .ret1 (h1:=.tmp (t:=6) rfl) ⟨_,⟨rfl,rfl⟩,Am.auto⟩
 ·refine .cast (d:=41) (u:=.bool true) rfl (congrArg (fun b=>Value.bool (!b)) hss) ?_
  have hlt:S.W.length < 60:=by rcases hroom with h | h;(rw [hno] at h;cases h);exact h
  refine .gT ?_
  refine .move ?_
  refine .gT ?_
  refine .nilCheck ?_
  refine .gT ?_
  refine .fa ?_ fo300_3
  refine .gT ?_
  refine .ld ?_ sc252
  refine .gT ?_
  refine .lenM ?_ mp252
  refine .gT ?_
  refine .geq ?_
  refine .pickT ?_
  refine .z ?_
  refine .condF rfl (congrArg Value.bool (by first|simp;done|simp;omega|omega)) ?_
  refine .skip (.next (.seq ?_))
  refine .dr ([pt c (cacheO (some j) S.op S.ov x.m),R]) [8] 9 mixed .autoJ ?_
  refine .tk 0 rfl .move ?_
  refine .tk 1 rfl .nilCheck ?_
  refine .tk 2 rfl (.fa fo300_3) ?_
  refine .tk 3 rfl (.ld sc252) ?_
  refine .tk 4 rfl .move ?_
  refine .tk 5 rfl .move ?_
  refine .tk 6 rfl (.toArr un301) ?_
  refine .tk 7 rfl (Qt.ldAR (i:=0) (us:=bvs xs) agg301 hR (by rw [List.drop_zero];exact List.take_of_length_le (by rw [bvs_length,hx];exact Nat.le_refl _)) (by rw [bvs_length,hx];exact Nat.le_refl _)) ?_
  refine .on 8 rfl fun hnp=>?_
  refine .upd (k:=(k:Int)) klI hp.hm mp252 fun es_1 c_1 hm_1=>?_
  rw [show Value.agg (bvs xs).toArray=arrV xs from rfl,wkv_put] at hm_1
  refine .nil (.wb hnp ?_)
  refine .fin ?_
  refine .next (.sr (.assign (.z ?_)))
  refine .ret (?_)
  refine .to (A:=pt c (cacheO (some j) S.op S.ov x.m)) (A':=pt c (cacheO (some j) true S.ov x.m)) (fun h hh=>by rw [<- hop];exact hh) ?_
  refine .shutR (CR.opens c j d n ⟨S.J,kput S.W k xs,true,S.ov⟩) ⟨x.m,es_1,c_1⟩ ⟨hm_1,hp.hf.put h5 hkn hx hroom,hp.n1,hp.n2⟩ ?_
  exact .ret1 (h1:=.tmp (t:=6) rfl) ⟨_,⟨rfl,rfl⟩,Am.auto⟩
open Go.Shelf Go.Sort Go.RowKit Go.Maps
def lays189_ren:Go.Shelf.Ren:=⟨fun | 189=>265 | 125=>254 | 257=>299 | 128=>296 | 129=>297 | 294=>315 | 295=>316 | 296=>317 | 297=>318 | 298=>319 | 299=>320 | 216=>321 | 300=>322 | 301=>323 | 328=>335 | 329=>311 | 330=>312 | 331=>336 | 332=>337 | 215=>338 | 343=>346 | n=>n,fun | 28=>80 | 3=>3 | 46=>327 | 0=>0 | 51=>303 | 53=>134 | 4=>4 | 183=>376 | 182=>375 | 131=>268 | 5=>5 | 9=>9 | 218=>388 | 222=>291 | 228=>406 | 229=>63 | n=>n,fun n=>n⟩
theorem lays189:Lays.n189 Tryz.prog lays189_ren where
 mixed:=by kernel_rfl
 f125:=Tryz.func254.trans (congrArg some (by kernel_rfl))
 f128:=Tryz.func296.trans (congrArg some (by kernel_rfl))
 f129:=Tryz.func297.trans (congrArg some (by kernel_rfl))
 f189:=Tryz.func265.trans (congrArg some (by kernel_rfl))
 f215:=Tryz.func338.trans (congrArg some (by kernel_rfl))
 f216:=Tryz.func321.trans (congrArg some (by kernel_rfl))
 f257:=Tryz.func299.trans (congrArg some (by kernel_rfl))
 f294:=Tryz.func315.trans (congrArg some (by kernel_rfl))
 f295:=Tryz.func316.trans (congrArg some (by kernel_rfl))
 f296:=Tryz.func317.trans (congrArg some (by kernel_rfl))
 f297:=Tryz.func318.trans (congrArg some (by kernel_rfl))
 f298:=Tryz.func319.trans (congrArg some (by kernel_rfl))
 f299:=Tryz.func320.trans (congrArg some (by kernel_rfl))
 f300:=Tryz.func322.trans (congrArg some (by kernel_rfl))
 f301:=Tryz.func323.trans (congrArg some (by kernel_rfl))
 f328:=Tryz.func335.trans (congrArg some (by kernel_rfl))
 f329:=Tryz.func311.trans (congrArg some (by kernel_rfl))
 f330:=Tryz.func312.trans (congrArg some (by kernel_rfl))
 f331:=Tryz.func336.trans (congrArg some (by kernel_rfl))
 f332:=Tryz.func337.trans (congrArg some (by kernel_rfl))
 f343:=Tryz.func346.trans (congrArg some (by kernel_rfl))
 t0:=Tryz.underlying0
 a0:=Tryz.isAgg0
 z0:=Tryz.sizeOf0
 v0:=Tryz.zeroValue0
 t3:=Tryz.underlying3
 a3:=Tryz.isAgg3
 z3:=Tryz.sizeOf3
 v3:=Tryz.zeroValue3
 t4:=Tryz.underlying4
 a4:=Tryz.isAgg4
 z4:=Tryz.sizeOf4
 v4:=Tryz.zeroValue4
 t5:=Tryz.underlying5
 a5:=Tryz.isAgg5
 z5:=Tryz.sizeOf5
 v5:=Tryz.zeroValue5
 t9:=Tryz.underlying9
 a9:=Tryz.isAgg9
 z9:=Tryz.sizeOf9
 v9:=Tryz.zeroValue9
 t28:=Tryz.underlying80
 a28:=Tryz.isAgg80
 z28:=Tryz.sizeOf80
 v28:=Tryz.zeroValue80
 t46:=Tryz.underlying327
 a46:=Tryz.isAgg327
 z46:=Tryz.sizeOf327
 v46:=Tryz.zeroValue327
 t51:=Tryz.underlying303
 a51:=Tryz.isAgg303
 z51:=Tryz.sizeOf303
 v51:=Tryz.zeroValue303
 t53:=Tryz.underlying134
 a53:=Tryz.isAgg134
 z53:=Tryz.sizeOf134
 v53:=Tryz.zeroValue134
 t131:=Tryz.underlying268
 a131:=Tryz.isAgg268
 z131:=Tryz.sizeOf268
 v131:=Tryz.zeroValue268
 t182:=Tryz.underlying375
 a182:=Tryz.isAgg375
 z182:=Tryz.sizeOf375
 v182:=Tryz.zeroValue375
 t183:=Tryz.underlying376
 a183:=Tryz.isAgg376
 z183:=Tryz.sizeOf376
 v183:=Tryz.zeroValue376
 t218:=Tryz.underlying388
 a218:=Tryz.isAgg388
 z218:=Tryz.sizeOf388
 v218:=Tryz.zeroValue388
 t222:=Tryz.underlying291
 a222:=Tryz.isAgg291
 z222:=Tryz.sizeOf291
 v222:=Tryz.zeroValue291
 t228:=Tryz.underlying406
 a228:=Tryz.isAgg406
 z228:=Tryz.sizeOf406
 v228:=Tryz.zeroValue406
 t229:=Tryz.underlying63
 a229:=Tryz.isAgg63
 z229:=Tryz.sizeOf63
 v229:=Tryz.zeroValue63
def laysSorted_ren:Go.Shelf.Ren:=⟨fun | 6=>211 | 8=>264 | 9=>265 | 11=>298 | n=>n,fun | 26=>3 | 28=>312 | 24=>80 | 0=>0 | 3=>3 | 33=>86 | 4=>4 | n=>n,fun n=>n⟩
theorem laysSorted:SlLaysZI.n6 Tryz.prog laysSorted_ren where
 mixed:=by kernel_rfl
 f6 := ⟨ "slices.Sorted[int]", by decide, Tryz.func211.trans (congrArg some (by kernel_rfl))⟩
 f8 := ⟨ "slices.Collect[int]", by decide, Tryz.func264.trans (congrArg some (by kernel_rfl))⟩
 f11 := ⟨ "slices.AppendSeq[[]int,int]", by decide, Tryz.func298.trans (congrArg some (by kernel_rfl))⟩
 t0:=Tryz.underlying0
 a0:=Tryz.isAgg0
 z0:=Tryz.sizeOf0
 v0:=Tryz.zeroValue0
 t24:=Tryz.underlying80
 a24:=Tryz.isAgg80
 z24:=Tryz.sizeOf80
 v24:=Tryz.zeroValue80
 t26:=Tryz.underlying3
 a26:=Tryz.isAgg3
 z26:=Tryz.sizeOf3
 v26:=Tryz.zeroValue3
 t28:=Tryz.underlying312
 a28:=Tryz.isAgg312
 z28:=Tryz.sizeOf312
 v28:=Tryz.zeroValue312
 i26:=by kernel_rfl
def laysKeys_ren:Go.Shelf.Ren:=⟨fun | 7=>212 | 10=>266 | n=>n,fun | 23=>252 | 26=>3 | 3=>301 | 28=>312 | 0=>0 | 27=>311 | 33=>86 | 4=>4 | n=>n,fun n=>n⟩
theorem laysKeys:SlLaysZI.n7 Tryz.prog laysKeys_ren where
 mixed:=by kernel_rfl
 f7 := ⟨ "maps.Keys[map[int][512]byte,int,[512]byte]", by decide, Tryz.func212.trans (congrArg some (by kernel_rfl))⟩
 f10 := ⟨ "maps.Keys[map[int][512]byte,int,[512]byte]$1", by decide, Tryz.func266.trans (congrArg some (by kernel_rfl))⟩
 t0:=Tryz.underlying0
 a0:=Tryz.isAgg0
 z0:=Tryz.sizeOf0
 v0:=Tryz.zeroValue0
 t4:=Tryz.underlying4
 a4:=Tryz.isAgg4
 z4:=Tryz.sizeOf4
 v4:=Tryz.zeroValue4
 t23:=Tryz.underlying252
 a23:=Tryz.isAgg252
 z23:=Tryz.sizeOf252
 v23:=Tryz.zeroValue252
 t26:=Tryz.underlying3
 a26:=Tryz.isAgg3
 z26:=Tryz.sizeOf3
 v26:=Tryz.zeroValue3
 t27:=Tryz.underlying311
 a27:=Tryz.isAgg311
 z27:=Tryz.sizeOf311
 v27:=Tryz.zeroValue311
 t28:=Tryz.underlying312
 a28:=Tryz.isAgg312
 z28:=Tryz.sizeOf312
 v28:=Tryz.zeroValue312
 t33:=Tryz.underlying86
 a33:=Tryz.isAgg86
 z33:=Tryz.sizeOf86
 v33:=Tryz.zeroValue86
theorem mapsKeys {b:Nat}:Spec Tryz.prog 212 #[.map (some b)] [] fun F v M=>∃ bm,v=.func (.func 266) #[] #[.pointer (some ⟨bm,0,none⟩)]/\M=pt bm (.cells #[.map (some b)] 252 (0,0)) :: F:=by
 refine Spec.intro Tryz.func212 rfl rfl fun B F=>?_
 simp only [Tryz.ntmps212,List.cons_append,List.nil_append,env0,Nat.reduceAdd]
 refine .sr ?_
 refine .box fun b1=>?_
 refine .assign (.x ?_)
 refine .makeFuncB ?_
 refine .assign (.z ?_)
 refine .ret (?_)
 exact .ret1 (h1:=.tmp (t:=2) rfl) ⟨_,⟨_,rfl,rfl⟩,Am.auto⟩
theorem sortsI (m:Nat):AnyZI.SortsIn Tryz.prog laysSorted_ren Fence.wide m :=
 ⟨fun blk off cap ss W hH hblk hsz=>callsIn_wide.2 (Any.slices_Sort_int lays189 blk off cap ss W hH hblk hsz),
  fun p cap W=>callsIn_wide.2 (Any.slices_Sort_int_none lays189 p cap W)⟩
theorem sortedKeys {b c bm:Nat} {es:Array MapEntry} {kvs:List (Int×Value)} (hm:MapIs intE es c kvs) (hl:kvs.length<=1000) (hr:∀ p∈kvs,-9223372036854775808<=p.1/\p.1<=9223372036854775807) :
  Spec Tryz.prog 211 #[.func (.func 266) #[] #[.pointer (some ⟨bm,0,none⟩)]] [pt bm (.cells #[.map (some b)] 252 (0,0)),pt b (.map es c)] fun F v M=>∃ ss:List Int,ss.Perm (kvs.map (·.1))/\M=rowR 3 1 v ss.length (ints ss) :: pt bm (.cells #[.map (some b)] 252 (0,0)) :: pt b (.map es c) :: F:=by
 intro B F w hs
 have hbm:=hs.get .here
 have hb:=hs.get (.there .here)
 obtain ⟨D,hown,hsize,hperm⟩:=ownsMap_of (P:=Tryz.prog) (kt:=3) (by kernel_rfl) hb hm (by unfold maxLen;omega) hr
 have hseq:SeqGives Fence.wide 2 Tryz.prog 266 #[.pointer (some ⟨bm,0,none⟩)] encZ (fun ss=>ss.Perm (Go.intKeys D)) (Maps.size D) w :=
  AnyZI.keys_gives (ρ:=laysKeys_ren) { laysKeys with } Fence.wide 2 trivial rfl (by omega) bm b kvs.length D w (Array.getElem?_eq_some_iff.1 hbm).1 (by rw [cell_of hbm];rfl) hown
 have cS:=AnyZI.sorted_in laysSorted Fence.wide 5 trivial trivial trivial trivial rfl (by omega) (sortsI _) (enters_of Tryz.func265 (by kernel_rfl) rfl) 266 #[.pointer (some ⟨bm,0,none⟩)] trivial (enters_of Tryz.func266 (by kernel_rfl) rfl) _ _ (by rw [hsize];unfold maxLen;omega) (by rw [hsize];omega) w hseq
 change CallsIn _ _ Tryz.prog 211 _ _ _ at cS
 refine ((callsIn_wide (n:=5)).1 cS).mono ?_
 rintro e w' ⟨v,ss,rfl,hS,hrow,hnil,hbel⟩
 refine ⟨v,_,rfl,⟨ss.mergeSort fun x y=>decide (x<=y),(List.mergeSort_perm ss _).trans (hS.trans hperm),rfl⟩,?_⟩
 rw [List.length_mergeSort]
 exact hs.newRow hbel hrow
end Go.Proofs.YtdmjkjeoamiedaaGreatDoor
end
section
namespace Go.Proofs.YtdmjkjeoamiedaaGreatDoor
open Go
theorem bdCh (k:Int) (b:Nat):BuildOk Tryz.prog 315 [(0,.int .i64 k),(1,.slice (some ⟨b,0,none⟩) 512 512)] #[.int .i64 k,.slice (some ⟨b,0,none⟩) 512 512]:=fun w=>by kernel_rfl
theorem bsCh (k:Int) (b:Nat):BuildSOk Tryz.prog 309 1 [(0,.agg #[.int .i64 k,.slice (some ⟨b,0,none⟩) 512 512])] 315 #[.int .i64 k,.slice (some ⟨b,0,none⟩) 512 512]:=fun w=>by kernel_rfl
theorem chCells_append:∀ (a b:List CV),chCells (a++b)=chCells a++chCells b
 | [],b=>rfl
 | c :: a,b=>by simp only [List.cons_append,chCells,chCells_append a b]
structure KI (W:List (Nat×Bytes)) (ss:List Int) (i:Int) (cvs:List CV) (bl:List (Value×Bytes)):Prop where
 lo:0<=i
 hi:i<=ss.length
 keys:cvs.map (fun c=>(c.k:Int))=ss.take i.toNat
 are:∀ c∈cvs,kget W c.k=some c.xs
 lie:Lie bl cvs
theorem KI.len {W:List (Nat×Bytes)} {ss:List Int} {i:Int} {cvs:List CV} {bl:List (Value×Bytes)} (h:KI W ss i cvs bl):cvs.length=i.toNat:=by
 have:=congrArg List.length h.keys
 have:=h.lo
 have:=h.hi
 simp at *
 omega
theorem KI.step {W:List (Nat×Bytes)} {ss:List Int} {i:Int} {cvs:List CV} {bl:List (Value×Bytes)} (h:KI W ss i cvs bl) (hlt:i.toNat < ss.length) {k b:Nat} {xs:Bytes} (hk:ss[i.toNat]=(k:Int)) (hx:kget W k=some xs) (h5:xs.length=512) :
  KI W ss (i+1) (cvs++[⟨k,b,512,xs⟩]) ((.slice (some ⟨b,0,none⟩) xs.length 512,xs) :: bl):=by
 have h0:=h.lo
 refine ⟨by omega,by omega,?_,fun c hc=>?_,fun c hc=>?_⟩
 ·rw [List.map_append,h.keys,show (i+1).toNat=i.toNat+1 from by omega,List.take_succ_eq_append_getElem hlt,hk];rfl
 ·rcases List.mem_append.1 hc with hc | hc
  ·exact h.are c hc
  ·rw [List.mem_singleton] at hc;subst hc;exact hx
 ·rcases List.mem_append.1 hc with hc | hc
  ·exact List.mem_cons_of_mem _ (h.lie c hc)
  ·rw [List.mem_singleton] at hc;subst hc;rw [h5];exact List.mem_cons_self ..
theorem nodup_self {W:List (Nat×Bytes)} (h:(W.map (·.1)).Nodup):W=(W.map (·.1)).map fun k=>(k,(kget W k).getD []):=by
 rw [List.map_map]
 conv=>lhs;rw [<- List.map_id W]
 apply List.map_congr_left
 intro p hp
 have:=(kget_mem h).2 (show (p.1,p.2)∈W from hp)
 simp [this]
theorem KI.perm {W:List (Nat×Bytes)} {ss:List Int} {i:Int} {cvs:List CV} {bl:List (Value×Bytes)} (h:KI W ss i cvs bl) (hi:i=ss.length) (hs:ss.Perm ((wkv W).map (·.1))) (hn:(W.map (·.1)).Nodup):(cvs.map CV.pair).Perm W:=by
 have h1:(cvs.map CV.pair).map (·.1)=(ss.map Int.toNat):=by
  have h2:=h.keys
  rw [hi,Int.toNat_natCast,List.take_length] at h2
  rw [<- h2,List.map_map,List.map_map]
  apply List.map_congr_left
  intro c _
  simp [CV.pair]
 have h3:(ss.map Int.toNat).Perm (W.map (·.1)):=by
  refine (hs.map Int.toNat).trans (List.Perm.of_eq ?_)
  rw [List.map_map,wkv,List.map_map]
  apply List.map_congr_left
  intro p _
  simp
 have h4:(cvs.map CV.pair)=((cvs.map CV.pair).map (·.1)).map fun k=>(k,(kget W k).getD []):=by
  rw [List.map_map,List.map_map]
  apply List.map_congr_left
  intro c hc
  simp [CV.pair,h.are c hc]
 rw [h4,nodup_self hn,<-nodup_self hn,h1]
 refine (h3.map _).trans (List.Perm.of_eq ?_)
 exact (nodup_self hn).symm
theorem Fit.perm {n:Nat} {a b:List (Nat×Bytes)} (h:Fit n b) (hp:a.Perm b):Fit n a:=⟨fun p hp'=>h.home p (hp.mem_iff.1 hp'),by rw [hp.length_eq];exact h.few,(hp.map _).nodup_iff.2 h.apart⟩
theorem cCommitF {c j d n:Nat} {S:CS} (hop:S.op=true):Spec Tryz.prog 139 #[.pointer (some ⟨c,0,none⟩)] [CR c j d n S] fun F v M=>∃ L:List (Nat×Bytes),L.Perm S.W/\Fit n S.W/\Fit n S.J.ch/\v=okV/\M=CR c j d n ⟨S.J.commits L,[],false,S.ov⟩ :: F:=by
 refine Spec.intro Tryz.func139 rfl rfl fun B F=>?_
 simp only [Tryz.ntmps139,List.cons_append,List.nil_append,env0,Nat.reduceAdd]
 refine .openR (CR.opens c j d n S) fun x hp=>?_
 simp only [cL,List.cons_append,List.nil_append]
 have hfew:=hp.hf.few
 refine .fact (A:=JR j d n S.J) (fun h hh=>((JR.opens j d n S.J).to h hh).elim fun x hx=>hx.1.hf) fun hjf=>?_
 have hwl:=wkv_length S.W
 have hn2:=hp.n2
 have hrange:∀ p∈wkv S.W,-9223372036854775808<=p.1/\p.1<=9223372036854775807:=by
  intro p hp'
  obtain ⟨q,hq,rfl⟩:=List.mem_map.1 hp'
  have:=(hp.hf.home q hq).2.1
  constructor<;>simp only<;>omega
 refine .sr (.assign (.z (.seq (.sr (.move ?_)))))
 refine .call (hc:=Tryz.call205) (sp:=cacheOpen) (h:=?_)
 rintro _ _ ⟨rfl,rfl⟩
 refine .cast (d:=8) (u:=.bool true) rfl (congrArg Value.bool hop) ?_
 refine .not ?_
 refine .z ?_
 refine .condF rfl rfl ?_
 refine .skip (.next (.sr (.assign (.z (.seq (.sr (.move ?_)))))))
 refine .nilCheck ?_
 refine .fa ?_ fo300_3
 refine .ld ?_ sc252
 refine .call (hc:=Tryz.call212) (sp:=mapsKeys) (h:=?_)
 rintro _ _ ⟨bm,rfl,rfl⟩
 refine .call (hc:=Tryz.call211) (sp:=sortedKeys (c:=x.c) hp.hm (by omega) hrange) (h:=?_)
 rintro vs _ ⟨ss,hss,rfl⟩
 refine .fact (rowR_shape (el:=3) (size:=1) (v:=vs) (k:=ss.length) (xs:=ints ss)) (fun ⟨A,ca,hva,hR,hA1,hA2,hA3⟩=>?_)
 subst hva
 have hsl:ss.length=S.W.length:=by rw [hss.length_eq,List.length_map,hwl]
 refine .lenS ?_ sl80
 refine .move (.z (.block ?_))
 refine .blobsNil ?_
 refine .emp (rowR.nil (e:=315) (size:=2) _) ?_
 refine .loopA (σ:=Int×Value×List CV×List (Value×Bytes)) (fun s=>[(0,.pointer (some ⟨c,0,none⟩)),(3,s.2.1),(15,.slice A ss.length ca),(16,.int .i64 (ss.length:Int)),(17,.int .i64 s.1)]) (fun s=>[rowR 315 2 s.2.1 s.1.toNat (chCells s.2.2.1),blobs s.2.2.2,rowR 3 1 (.slice A ss.length ca) ss.length (ints ss),pt c (cacheO (some j) S.op S.ov x.m),pt x.m (.map x.es x.c),JR j d n S.J]++F) (fun s=>KI S.W ss s.1 s.2.2.1 s.2.2.2) (fun s=>((ss.length:Int) - s.1).toNat) (0,.slice none 0 0,[],[]) ⟨by omega,by omega,rfl,(fun c hc=>by cases hc),(fun c hc=>by cases hc)⟩ ?_
 rintro ⟨i,v,cvs,bl⟩ hi
 refine .sr ?_
 refine .lss ?_
 refine .z (.seq ?_)
 refine .cond rfl (fun hb=>?_) (fun hb=>?_)
 ·have hlt:i < (ss.length:Int):=of_decide_eq_true hb
  have hlo:=hi.lo
  have hil:i.toNat < ss.length:=by omega
  rcases A with _ | ⟨ab,ao,asp⟩
  ·exact absurd hR (fun h=>by have h2:ints ss=[]:=h;simp [ints] at h2;subst h2;simp at hil)
  have hsp:asp=none:=hR.1
  subst hsp
  obtain ⟨k,hk,xs,hx⟩:∃ k:Nat,ss[i.toNat]=(k:Int)/\∃ xs,kget S.W k=some xs:=by
   have h1:=hss.mem_iff.1 (List.getElem_mem hil)
   obtain ⟨q,hq,hqs⟩:=List.mem_map.1 h1
   obtain ⟨p,hp',rfl⟩:=List.mem_map.1 hq
   exact ⟨p.1,hqs.symm,p.2,(kget_mem hp.hf.apart).2 hp'⟩
  have hhome:=hp.hf.home _ ((kget_mem hp.hf.apart).1 hx)
  have hx5:xs.length=512:=hhome.2.2
  have hgx:(kget (wkv S.W) (k:Int)).getD (.agg (Array.replicate 512 (.int .u8 0)))=arrV xs:=by rw [wkv_get,hx];rfl
  refine .skip (.next (.seq (.block (.sr ?_))))
  refine .idx1 ?_ so80
  refine .ldR ?_ sc3 hR (ints_get hil)
  refine .cast (d:=20) rfl (congrArg (Value.int .i64) hk) ?_
  refine .assign (.x (.move ?_))
  refine .nilCheck ?_
  refine .fa ?_ fo300_3
  refine .ld ?_ sc252
  refine .move ?_
  refine .look klI hp.hm mp252 zv301 ?_
  refine .cast (d:=26) rfl hgx ?_
  refine .alloc z301 fun b6=>?_
  refine .stArr (cs:=Array.replicate 512 (.int .u8 0)) ?_ agg301 hx5 (by decide) Array.size_replicate
  refine .y (.move (.move ?_))
  refine .slcArr ?_ un301 (by kernel_rfl)
  refine .build ?_ (bdCh _ _)
  refine .buildS (fun b31=>?_) (bsCh _ _)
  refine .append (m:=1) so309 (by decide) (by repeat (first | exact .here | apply Rem.there | apply Repl.there | apply Mem.there)) Reads.pt (by repeat (first | exact .here | apply Rem.there | apply Repl.there | apply Mem.there)) rfl (by simp [Value.single]) (by unfold maxLen;omega) (by omega) ⟨_,z315,rfl⟩ (fun v' hv'=>?_)
  refine .assign (.nil (.blockNormal (.next (.region ?_))))
  refine .add ?_
  refine .move (.nil ?_)
  refine .blobsAdd (bl:=bl) (g:=b6) (k:=512) (xs:=xs) (by rw [hx5];exact Nat.le_refl _) ?_
  refine .to (A:=rowR 315 2 v' (i.toNat+1) (chCells cvs++[.int .i64 (k:Int),.slice (some ⟨b6,0,none⟩) 512 512])) (A':=rowR 315 2 v' (i+1).toNat (chCells (cvs++[⟨k,b6,512,xs⟩]))) (fun h hh=>by rw [show (i+1).toNat=i.toNat+1 from by omega,chCells_append];exact hh) ?_
  exact .back (i+1,v',cvs++[⟨k,b6,512,xs⟩],(.slice (some ⟨b6,0,none⟩) xs.length 512,xs) :: bl) (hi.step hil hk hx hx5) (by show ((ss.length:Int) - (i+1)).toNat < ((ss.length:Int) - i).toNat;omega)
 ·have hge:¬ i < (ss.length:Int):=of_decide_eq_false hb
  have hlo:=hi.lo
  have hhi:=hi.hi
  have hie:i=(ss.length:Int):=by omega
  have hper:=hi.perm hie hss hp.hf.apart
  have hfit:=hp.hf.perm hper
  have hcl:cvs.length=i.toNat:=hi.len
  have hlie:=hi.lie
  rw [<- hcl]
  refine .fact (rowR_shape (el:=315) (size:=2) (v:=v) (k:=cvs.length) (xs:=chCells cvs)) (fun ⟨A2,c2,hv2,hR2,hk2,hc2,hl2⟩=>?_)
  subst hv2
  refine .exit (.thenExit (.thenExit (.blockExit (?_))))
  refine .next (.sr (.move ?_))
  refine .call (hc:=Tryz.call213) (sp:=cDone) (h:=?_)
  rintro _ _ ⟨rfl,rfl⟩
  refine .x (.move ?_)
  refine .nilCheck ?_
  refine .fa ?_ fo300_0
  refine .ld ?_ sc215
  refine .move ?_
  refine .call (hc:=Tryz.call214) (sp:=jCommit (n:=n) (J:=S.J) hR2 rfl hlie hfit) (h:=?_)
  rintro _ _ ⟨rfl,rfl⟩
  simp only [List.cons_append,List.nil_append]
  refine .assign (.z ?_)
  refine .ret (?_)
  refine .shutR (CR.opens c j d n ⟨S.J.commits (cvs.map CV.pair),[],false,S.ov⟩) ⟨x.m,#[],x.c⟩ ⟨MapIs.empty _ _,Fit.nil n,hp.n1,hp.n2⟩ ?_
  exact .ret1 (h1:=.tmp (t:=2) rfl) ⟨_,⟨_,hper,hp.hf,hjf,rfl,rfl⟩,Am.auto⟩
def plc (size:Nat) (big:Bool) (i:Nat):Nat:=if big then size - 1 - i else i
theorem putN_out (xs:Bytes) (p size:Nat) (big:Bool) (v:Nat) {j:Nat} (hj:j < p ∨ p+size<=j):∀ i,i<=size->(putN xs p size big v i)[j]?=xs[j]?
 | 0,_=>rfl
 | i+1,hi=>by
  rw [putN,List.getElem?_set_ne,putN_out xs p size big v hj i (by omega)]
  cases big<;>simp<;>omega
theorem putN_in (xs:Bytes) (p size:Nat) (big:Bool) (v:Nat) (h:p+size<=xs.length) {k:Nat} (hk:k < size):∀ i,k < i->i<=size->(putN xs p size big v i)[p+plc size big k]?=some (UInt8.ofNat (v >>> (8 * k)))
 | i+1,hki,hi=>by
  rw [putN]
  by_cases hk2:k=i
  ·subst hk2
   exact List.getElem?_set_self (by rw [putN_length];split<;>omega)
  ·rw [List.getElem?_set_ne]
   ·exact putN_in xs p size big v h hk i (by omega) (by omega)
   ·unfold plc
    cases big<;>simp<;>omega
theorem put_out (xs:Bytes) (p size:Nat) (big:Bool) (v:Nat) {j:Nat} (hj:j < p ∨ p+size<=j):(put xs p size big v)[j]?=xs[j]?:=putN_out xs p size big v hj size (Nat.le_refl _)
theorem put_in {xs:Bytes} {p size:Nat} {big:Bool} {v:Nat} (h:p+size<=xs.length) {k:Nat} (hk:k < size):(put xs p size big v).getD (p+plc size big k) 0=UInt8.ofNat (v >>> (8 * k)):=by
 rw [List.getD_eq_getElem?_getD]
 unfold put
 rw [putN_in xs p size big v h hk size hk (Nat.le_refl _)]
 rfl
theorem seg_put {xs:Bytes} {p size:Nat} {big:Bool} {v:Nat} (h:p+size<=xs.length) (hv:v < 256 ^ size):beNat (seg (put xs p size big v) p size big)=v:=by
 have hl:p+size<=(put xs p size big v).length:=by rw [put_length];exact h
 have key:∀ i,i<=size->beNat ((seg (put xs p size big v) p size big).take i)=v / 256 ^ (size - i):=by
  intro i
  induction i with
  | zero=>intro _;rw [List.take_zero,Nat.sub_zero,Nat.div_eq_of_lt hv];rfl
  | succ i ih =>
   intro hi
   rw [seg_take_succ hl (by omega),ih (by omega)]
   have e:(if big then i else size - 1 - i)=plc size big (size - 1 - i):=by
    unfold plc
    cases big<;>simp
    omega
   rw [e,put_in h (by omega),UInt8.toNat_ofNat',Nat.shiftRight_eq_div_pow]
   have h2:(2:Nat) ^ (8 * (size - 1 - i))=256 ^ (size - (i+1)):=by
    rw [Nat.pow_mul,show size - 1 - i=size - (i+1) from by omega]
   have h3:(256:Nat) ^ (size - i)=256 ^ (size - (i+1)) * 256:=by
    rw [show size - i=size - (i+1)+1 from by omega,Nat.pow_succ]
   rw [h2,h3,<-Nat.div_div_eq_div_mul]
   have:=Nat.div_add_mod (v / 256 ^ (size - (i+1))) 256
   omega
 have h1:=key size (Nat.le_refl _)
 rw [Nat.sub_self,Nat.pow_zero,Nat.div_one,List.take_of_length_le (by rw [seg_length hl];exact Nat.le_refl _)] at h1
 exact h1
theorem seg_same {xs ys:Bytes} {p size:Nat} {big:Bool} (h:∀ j,p<=j->j < p+size->xs[j]?=ys[j]?):seg xs p size big=seg ys p size big:=by
 have:(xs.drop p).take size=(ys.drop p).take size:=by
  apply List.ext_getElem?
  intro j
  rw [List.getElem?_take,List.getElem?_take]
  split
  ·rw [List.getElem?_drop,List.getElem?_drop]
   exact h _ (by omega) (by omega)
  ·rfl
 unfold seg
 rw [this]
theorem seg_put_other {xs:Bytes} {p size q size':Nat} {big big':Bool} {v:Nat} (h:q+size'<=p ∨ p+size<=q):seg (put xs p size big v) q size' big'=seg xs q size' big' :=
 seg_same fun j h1 h2=>put_out xs p size big v (by omega)
theorem take_same {xs ys:Bytes} {k:Nat} (h:∀ j,j < k->xs[j]?=ys[j]?):xs.take k=ys.take k:=by
 apply List.ext_getElem?
 intro j
 rw [List.getElem?_take,List.getElem?_take]
 split
 ·exact h _ (by assumption)
 ·rfl
theorem take_put {xs:Bytes} {p size k:Nat} {big:Bool} {v:Nat} (h:k<=p):(put xs p size big v).take k=xs.take k:=take_same fun j hj=>put_out xs p size big v (by omega)
theorem z325:zeroOf Tryz.prog 325=some (#[.int .i64 0,.int .i64 0]):=by kernel_rfl
theorem agg325:aggOk Tryz.prog 325 2=true:=by kernel_rfl
structure IsHead (gen m:Nat) (bl:List Nat) (hb:Bytes):Prop where
 len:hb.length=512
 mrk:hb.take 8=markH
 gn:beNat (seg hb 8 8 false)=gen
 no:beNat (seg hb 16 8 false)=m
 ct:beNat (seg hb 24 8 false)=bl.length
 nth:∀ i (h:i < bl.length),beNat (seg hb (32+4 * i) 4 false)=bl[i]
 few:bl.length<=60
theorem IsHead.one {gen m m':Nat} {bl bl':List Nat} {hb:Bytes} (h:IsHead gen m bl hb) (h':IsHead gen m' bl' hb):m=m'/\bl=bl':=by
 refine ⟨h.no.symm.trans h'.no,List.ext_getElem (h.ct.symm.trans h'.ct) fun i h1 h2=>(h.nth i h1).symm.trans (h'.nth i h2)⟩
theorem IsHead.not {gen m:Nat} {bl:List Nat} {hb:Bytes} (h:IsHead gen m bl hb) (h':NoHead gen hb):False:=by
 rcases h' with h1 | h1
 ·exact h1 h.mrk
 ·exact h1 h.gn
theorem laidN_seg {ys:Bytes} (hy:ys.length=8) (nums:List Nat) {k:Nat} (hk:k < nums.length) (hv:nums.getD k 0 < 2 ^ 64) (hl:nums.length<=60):∀ i,k < i->i<=nums.length->beNat (seg (laidN ys nums i) (8 * (k+1)) 8 false)=nums.getD k 0
 | i+1,h1,h2=>by
  rw [laidN]
  have hlen:=laidN_length (ys:=ys) (by omega) nums i
  by_cases hki:k=i
  ·subst hki
   exact seg_put (by omega) (by rw [show (256:Nat) ^ 8=2 ^ 64 from by decide];exact hv)
  ·rw [seg_put_other (by omega)]
   exact laidN_seg hy nums hk hv hl i (by omega) (by omega)
theorem laidN_first {ys:Bytes} (hy:ys.length=8) (nums:List Nat):∀ i,(laidN ys nums i).take 8=ys
 | 0=>by rw [laidN,List.take_append_of_le_length (by omega),List.take_of_length_le (by omega)]
 | i+1=>by
  rw [laidN,take_put (by omega)]
  exact laidN_first hy nums i
theorem headN_seg (gen nn:Nat) (l:List (Nat×Bytes)) {p size:Nat} (hp:p+size<=32):∀ i,seg (headN gen nn l i) p size false=seg (laidB markH [gen,nn,l.length]) p size false
 | 0=>rfl
 | i+1=>by rw [headN,seg_put_other (by omega)];exact headN_seg gen nn l hp i
theorem headN_nth (gen nn:Nat) (l:List (Nat×Bytes)) (hl:l.length<=60) (hb:∀ p∈l,p.1 < 2 ^ 32) {k:Nat} (hk:k < l.length):∀ i,k < i->i<=l.length->beNat (seg (headN gen nn l i) (32+4 * k) 4 false)=l[k].1
 | i+1,h1,h2=>by
  rw [headN]
  have hlen:=headN_length gen nn l i
  by_cases hki:k=i
  ·subst hki
   rw [List.getElem?_eq_getElem hk]
   exact seg_put (by omega) (by rw [show (256:Nat) ^ 4=2 ^ 32 from by decide];exact hb _ (List.getElem_mem hk))
  ·rw [seg_put_other (by omega)]
   exact headN_nth gen nn l hl hb hk i (by omega) (by omega)
theorem headN_take (gen nn:Nat) (l:List (Nat×Bytes)):∀ i,(headN gen nn l i).take 8=markH
 | 0=>laidN_first (ys:=markH) rfl _ _
 | i+1=>by rw [headN,take_put (by omega)];exact headN_take gen nn l i
theorem headB_is {gen nn:Nat} {l:List (Nat×Bytes)} (hg:gen < 2 ^ 64) (hn:nn < 2 ^ 64) (hl:l.length<=60) (hb:∀ p∈l,p.1 < 2 ^ 32):IsHead gen nn (l.map (·.1)) (headB gen nn l):=by
 refine ⟨headN_length gen nn l _,headN_take gen nn l _,?_,?_,?_,fun i h=>?_,by rw [List.length_map];exact hl⟩
 ·unfold headB;rw [headN_seg gen nn l (by decide)];exact laidN_seg (ys:=markH) rfl [gen,nn,l.length] (k:=0) (Nat.le_of_ble_eq_true rfl) hg (Nat.le_of_ble_eq_true rfl) 3 (Nat.le_of_ble_eq_true rfl) (Nat.le_of_ble_eq_true rfl)
 ·unfold headB;rw [headN_seg gen nn l (by decide)];exact laidN_seg (ys:=markH) rfl [gen,nn,l.length] (k:=1) (Nat.le_of_ble_eq_true rfl) hn (Nat.le_of_ble_eq_true rfl) 3 (Nat.le_of_ble_eq_true rfl) (Nat.le_of_ble_eq_true rfl)
 ·unfold headB;rw [headN_seg gen nn l (by decide),List.length_map];exact laidN_seg (ys:=markH) rfl [gen,nn,l.length] (k:=2) (Nat.le_of_ble_eq_true rfl) (show l.length < 2 ^ 64 by omega) (Nat.le_of_ble_eq_true rfl) 3 (Nat.le_of_ble_eq_true rfl) (Nat.le_of_ble_eq_true rfl)
 ·rw [List.length_map] at h
  rw [List.getElem_map]
  exact headN_nth gen nn l hl hb h _ h (Nat.le_refl _)
structure HeadsOk (n:Nat) (J:JS):Prop where
 magic:(J.cur 0).take 8=magicJ
 gen:beNat (seg (J.cur 0) 8 8 false)=J.gen
 each:∀ i,i<=3->NoHead J.gen (J.cur (slotAt i 0)) ∨ ∃ m bl,IsHead J.gen m bl (J.cur (slotAt i 0))/\1<=m/\m<=J.last/\m % 4=i
 zero:J.last=0->J.ch=[]
 top:J.last≠0->∃ l,Fit n l/\IsHead J.gen J.last (l.map (·.1)) (J.cur (slotAt (J.last % 4) 0))/\(∀ i (h:i < l.length),J.cur (slotAt (J.last % 4) (i+1))=l[i].2)/\(J.ch=l ∨ (J.ch=[]/\∀ p∈l,J.cur p.1=p.2))
theorem slotAt_inj {a b a' b':Nat} (hb:b<=60) (hb':b'<=60) (h:slotAt a b=slotAt a' b'):a=a'/\b=b':=by
 unfold slotAt at h
 omega
theorem lay_oth (cur:Nat->Bytes) (l:List (Nat×Bytes)) (k:Nat) (h:∀ p∈l,p.1≠k):lay cur l k=cur k:=by
 induction l generalizing cur with
 | nil=>rfl
 | cons p l ih =>
  show lay (wr cur p.1 p.2) l k=cur k
  rw [ih _ (fun q hq=>h q (List.mem_cons_of_mem _ hq))]
  unfold wr
  rw [if_neg (fun hh=>h p (List.mem_cons_self ..) hh.symm)]
theorem lay_mem (cur:Nat->Bytes) (l:List (Nat×Bytes)) (hn:(l.map (·.1)).Nodup) {p:Nat×Bytes} (hp:p∈l):lay cur l p.1=p.2:=by
 induction l generalizing cur with
 | nil=>cases hp
 | cons q l ih =>
  simp only [List.map_cons,List.nodup_cons] at hn
  show lay (wr cur q.1 q.2) l p.1=p.2
  rcases List.mem_cons.1 hp with rfl | hp
  ·rw [lay_oth _ _ _ (fun r hr h=>hn.1 (List.mem_map.2 ⟨r,hr,h⟩))]
   unfold wr
   rw [if_pos rfl]
  ·exact ih _ hn.2 hp
theorem HeadsOk.commit {n:Nat} {J:JS} (h:HeadsOk n J) (hg:J.gen < 2 ^ 64) (hn:n<=65536) (hf:Fit n J.ch) {l:List (Nat×Bytes)} (hl:Fit n l) (hb:J.last+1 < 2 ^ 64):HeadsOk n (J.commit l):=by
 have hnx:J.next=J.last+1:=Nat.mod_eq_of_lt hb
 have hfew:=hl.few
 have s4:J.next % 4 < 4:=Nat.mod_lt _ (by decide)
 -- what lies below the homes,aside from the slot
 have low:∀ k,k < 245->(∀ b,b<=60->k≠slotAt (J.next % 4) b)->J.wrote l k=J.cur k:=by
  intro k hk hs
  unfold JS.wrote wr
  rw [if_neg (hs 0 (by decide)),lay_oth,lay_oth]
  ·intro p hp hh
   have:=(hf.home p hp).1
   omega
  ·intro p hp hh
   obtain ⟨i,hi,rfl⟩:=List.mem_iff_getElem.1 hp
   rw [dataL_length] at hi
   rw [dataL_get _ l i hi] at hh
   exact hs (i+1) (by omega) hh.symm
 have hhd:J.wrote l (slotAt (J.next % 4) 0)=headB J.gen J.next l:=by
  unfold JS.wrote wr
  rw [if_pos rfl]
 have hdn:((dataL (J.next % 4) l).map (·.1)).Nodup:=by
  unfold List.Nodup
  rw [List.pairwise_map,List.pairwise_iff_getElem]
  intro i j hi hj hij hh
  rw [dataL_length] at hi hj
  rw [dataL_get _ l i hi,dataL_get _ l j hj] at hh
  have:=(slotAt_inj (by omega) (by omega) hh).2
  omega
 have hdat:∀ i (hi:i < l.length),J.wrote l (slotAt (J.next % 4) (i+1))=l[i].2:=by
  intro i hi
  unfold JS.wrote wr
  rw [if_neg (fun hh=>by have:=(slotAt_inj (by omega) (by omega) hh).2;omega)]
  have hm:(slotAt (J.next % 4) (i+1),l[i].2)∈dataL (J.next % 4) l:=by
   rw [<- dataL_get _ l i hi]
   exact List.getElem_mem _
  exact lay_mem _ _ hdn hm
 have hz:J.wrote l 0=J.cur 0:=low 0 (by decide) (fun b hb=>by unfold slotAt;omega)
 have his:IsHead J.gen J.next (l.map (·.1)) (headB J.gen J.next l):=headB_is hg (by omega) hfew (fun p hp=>by have:=(hl.home p hp).2.1;omega)
 refine ⟨?_,?_,fun i hi=>?_,fun h0=>?_,fun _=>⟨l,hl,?_,hdat,.inl rfl⟩⟩
 ·show (J.wrote l 0).take 8=magicJ
  rw [hz];exact h.magic
 ·show beNat (seg (J.wrote l 0) 8 8 false)=J.gen
  rw [hz];exact h.gen
 ·show NoHead J.gen (J.wrote l (slotAt i 0)) ∨ ∃ m bl,IsHead J.gen m bl (J.wrote l (slotAt i 0))/\1<=m/\m<=J.next/\m % 4=i
  by_cases his2:i=J.next % 4
  ·subst his2
   rw [hhd]
   exact .inr ⟨_,_,his,by omega,Nat.le_refl _,rfl⟩
  ·rw [low (slotAt i 0) (by unfold slotAt;omega) (fun b hb hh=>his2 (slotAt_inj (by omega) hb hh).1)]
   rcases h.each i hi with h1 | ⟨m,bl,h1,h2,h3,h4⟩
   ·exact .inl h1
   ·exact .inr ⟨m,bl,h1,h2,by omega,h4⟩
 ·have h0:J.next=0:=h0
  omega
 ·show IsHead J.gen J.next (l.map (·.1)) (J.wrote l (slotAt (J.next % 4) 0))
  rw [hhd];exact his
def JS.settled (J:JS):JS:=⟨J.gen,J.last,[],lay J.cur J.ch⟩
theorem HeadsOk.settled {n:Nat} {J:JS} (h:HeadsOk n J) (hf:Fit n J.ch):HeadsOk n J.settled:=by
 have low:∀ k,k < 245->lay J.cur J.ch k=J.cur k:=fun k hk=>lay_oth _ _ _ (fun p hp hh=>by have:=(hf.home p hp).1;omega)
 have sl:∀ a b,a<=3->b<=60->slotAt a b < 245:=fun a b ha hb=>by unfold slotAt;omega
 have s4:J.last % 4<=3:=by omega
 refine ⟨?_,?_,fun i hi=>?_,fun _=>rfl,fun h0=>?_⟩
 ·show (lay J.cur J.ch 0).take 8=magicJ
  rw [low 0 (by decide)];exact h.magic
 ·show beNat (seg (lay J.cur J.ch 0) 8 8 false)=J.gen
  rw [low 0 (by decide)];exact h.gen
 ·show NoHead J.gen (lay J.cur J.ch (slotAt i 0)) ∨ ∃ m bl,IsHead J.gen m bl (lay J.cur J.ch (slotAt i 0))/\1<=m/\m<=J.last/\m % 4=i
  rw [low _ (sl i 0 hi (by decide))]
  exact h.each i hi
 ·obtain ⟨l,h1,h2,h3,h4⟩:=h.top h0
  refine ⟨l,h1,?_,fun i hi=>?_,.inr ⟨rfl,fun p hp=>?_⟩⟩
  ·show IsHead J.gen J.last _ (lay J.cur J.ch (slotAt (J.last % 4) 0))
   rw [low _ (sl _ 0 s4 (by decide))];exact h2
  ·show lay J.cur J.ch (slotAt (J.last % 4) (i+1))=l[i].2
   rw [low _ (sl _ (i+1) s4 (by have:=h1.few;omega))];exact h3 i hi
  ·show lay J.cur J.ch p.1=p.2
   rcases h4 with h4 | ⟨h4,h5⟩
   ·rw [h4];exact lay_mem _ _ h1.apart hp
   ·rw [h4];exact h5 p hp
def natsV (bl:List Nat):List Value:=ints (bl.map fun (x:Nat)=>(x:Int))
theorem natsV_snoc (bl:List Nat) (i:Nat) (h:i < bl.length):natsV (bl.take (i+1))=natsV (bl.take i)++[.int .i64 (bl[i]:Int)]:=by
 unfold natsV ints
 rw [List.take_succ_eq_append_getElem h,List.map_append,List.map_append]
 rfl
theorem natsV_blocks (l:List (Nat×Bytes)):natsV (l.map (·.1))=blocksV l:=by
 unfold natsV blocksV
 rw [List.map_map];rfl
theorem jHeader {j d n t gen last mp i m:Nat} {ov:Value} {cur:Nat->Bytes} {bl:List Nat} (hi:i<=3) (hn:246<=n) (hh:IsHead gen m bl (cur (slotAt i 0))) (hbl:∀ x∈bl,x < 4294967296):Spec Tryz.prog 216 #[.pointer (some ⟨j,0,none⟩),.int .i64 (i:Int)] [pt j (jO d gen last ov mp),DevR d n cur t] fun F v M=>∃ u,v=.tuple #[.int .u64 (m:Int),u]/\M=[rowR 3 1 u bl.length (natsV bl),pt j (jO d gen last ov mp),DevR d n cur t]++F:=by
 refine Spec.intro Tryz.func216 rfl rfl fun B F=>?_
 simp only [Tryz.ntmps216,List.cons_append,List.nil_append,env0,Nat.reduceAdd]
 refine .sr (.assign (.assign (.z (.seq ?_))))
 refine .dr ([pt j (jO d gen last ov mp)]) [] 13 mixed .autoJ ?_
 refine .tk 0 rfl .move ?_
 refine .tk 1 rfl .nilCheck ?_
 refine .tk 2 rfl (.fa fo320_0) ?_
 refine .tk 3 rfl (.ld sc22) ?_
 refine .tk 4 rfl .move ?_
 refine .tk 5 rfl (.build (bdPlace _ _)) ?_
 refine .on 6 rfl fun hnp=>?_
 refine .call (hc:=Tryz.call219) (sp:=placeAt (a:=i) (b:=0) (by omega)) (h:=?_)
 rintro _ _ ⟨rfl,rfl⟩
 refine .nil (.wa hnp ?_)
 refine .on 7 rfl fun hnp=>?_
 refine .call (hc:=Tryz.call218) (sp:=devRead (n:=n) (t:=t) (k:=slotAt i 0) (cur:=cur) (by unfold slotAt;omega)) (h:=?_)
 rintro _ _ ⟨gb,q,rfl,⟨hq1,hq2,hlen⟩,rfl⟩
 refine .nil (.wa hnp ?_)
 refine .tk 8 rfl .move ?_
 refine .tk 9 rfl .extract ?_
 refine .tk 10 rfl .extract ?_
 refine .tk 11 rfl .assign ?_
 refine .tk 12 rfl .assign ?_
 refine .fin ?_
 refine .next (.seq (.seq ?_))
 have hmk:=hh.mrk
 have hgn:=hh.gn
 have hfew:=hh.few
 refine .dr ([buf gb 5 q (bvs (cur (slotAt i 0))),pt j (jO d gen last ov mp)]) [] 17 mixed .autoJ ?_
 refine .tk 0 rfl .move ?_
 refine .tk 1 rfl .nei ?_
 refine .tk 2 rfl .move ?_
 refine .tn 3 rfl .move ?_
 refine .tn 4 rfl (.slcH so33) ?_
 refine .tn 5 rfl (.cvtBS (R:=buf gb 5 q (bvs (cur (slotAt i 0)))) (xs:=(cur (slotAt i 0)).take 8) by33 st9 (by rw [bvs_take];exact Reads.buf.take 8) (by rw [List.length_take,hlen])) ?_
 refine .tn 6 rfl ((Qt.neS ((cur (slotAt i 0)).take 8) markH).eq (v':=.bool false) (by rw [decide_eq_true hmk];rfl)) ?_
 refine .tk 7 rfl .pickF ?_
 refine .tk 8 rfl .move ?_
 refine .tn 9 rfl .move ?_
 refine .tn 11 rfl .move ?_
 refine .tn 12 rfl .nilCheck ?_
 refine .tn 13 rfl (.fa fo320_1) ?_
 refine .tn 14 rfl (.ld sc134) ?_
 refine .on 10 rfl fun hnp=>?_
 refine .gT ?_
 refine .call (hc:=Tryz.call269) (sp:=jGet (k:=1) Reads.buf hlen (by decide) (by decide) (by decide)) (h:=?_)
 rintro _ _ ⟨rfl,rfl⟩
 refine .nil (.wa hnp ?_)
 refine .tn 15 rfl ((Qt.nei).eq (v':=.bool false) (by rw [show (8 * (1:Int)).toNat=8 from rfl,hgn,decide_eq_true rfl];rfl)) ?_
 refine .tk 16 rfl .pickF ?_
 refine .fin ?_
 refine .next ?_
 refine .condF rfl rfl ?_
 refine .skip (.next (.seq (.sr (.move ?_))))
 refine .call (hc:=Tryz.call269) (sp:=jGet (k:=3) Reads.buf hlen (by decide) (by decide) (by decide)) (h:=?_)
 rintro _ _ ⟨rfl,rfl⟩
 refine .cvt ?_ un134 un3
 refine .cast (d:=41) (u:=.int .i64 (bl.length:Int)) rfl (congrArg (Value.int .i64) (by rw [show (8 * (3:Int)).toNat=24 from rfl,hh.ct,IntWalk.i64_in _ (by omega)])) ?_
 refine .move (.z (.block ?_))
 refine .emp (rowR.nil (e:=3) (size:=1) _) ?_
 refine .loopA (σ:=Nat×Value) (fun y=>[(0,.pointer (some ⟨j,0,none⟩)),(5,y.2),(6,.slice (some ⟨gb,0,none⟩) 512 q),(41,.int .i64 ((bl.length:Nat):Int)),(42,.int .i64 ((y.1:Nat):Int))]) (fun y=>[rowR 3 1 y.2 y.1 (natsV (bl.take y.1)),buf gb 5 q (bvs (cur (slotAt i 0))),pt j (jO d gen last ov mp),DevR d n cur t]++F) (fun y=>y.1<=bl.length) (fun y=>bl.length - y.1) (0,.slice none 0 0) (Nat.zero_le _) ?_
 rintro y hk
 obtain ⟨k,u⟩:=y
 simp only at hk ⊢
 refine .sr ?_
 refine .lss ?_
 refine .z (.seq ?_)
 refine .cond rfl (fun hb=>?_) (fun hb=>?_)
 ·have hlt:k < bl.length:=by have h:(k:Int) < (bl.length:Int):=of_decide_eq_true hb;omega
  have hx:=hbl _ (List.getElem_mem hlt)
  have hnth:=hh.nth k hlt
  refine .skip (.next (.seq (.block (.sr (.move (.assign (.x (.move (.move ?_)))))))))
  refine .mul ?_
  refine .add ?_
  refine .call (hc:=Tryz.call143) (sp:=bitsGet (A:=⟨gb,0,none⟩) (n:=512) (c:=q) (xs:=cur (slotAt i 0)) (p:=32+4 * (k:Int)) (size:=4) (big:=false) Reads.buf hlen (by omega) (by omega) (by omega) (by omega)) (h:=?_)
  rintro _ _ ⟨rfl,rfl⟩
  refine .move ?_
  refine .cast (d:=45) (u:=.tuple #[.int .u64 (bl[k]:Int),.bool true]) rfl (by rw [show (32+4 * (k:Int)).toNat=32+4 * k from by omega,show (4:Int).toNat=4 from rfl,hnth]) ?_
  refine .extract ?_
  refine .extract ?_
  refine .assign (.assign (.z (.seq (.sr (.move ?_)))))
  refine .not ?_
  refine .z ?_
  refine .condF rfl rfl ?_
  refine .skip (.next (.region (.move (.move ?_))))
  refine .cvt ?_ un134 un3
  refine .cast (d:=57) (u:=.int .i64 (bl[k]:Int)) rfl (congrArg (Value.int .i64) (IntWalk.i64_in _ (by omega))) ?_
  refine .buildS (fun b58=>?_) (bs80_1 _)
  refine .append (m:=1) so80 (by decide) (by repeat (first | exact .here | apply Rem.there | apply Repl.there | apply Mem.there)) Reads.pt (by repeat (first | exact .here | apply Rem.there | apply Repl.there | apply Mem.there)) rfl (by simp [Value.single]) (by unfold maxLen;omega) (by omega) ⟨_,z3,rfl⟩ (fun u2 hu2=>?_)
  refine .assign (.nil (.blockNormal (.next (.region ?_))))
  refine .add ?_
  refine .move (.nil ?_)
  refine .to (A:=rowR 3 1 u2 (k+1) (natsV (bl.take k)++[.int .i64 (bl[k]:Int)])) (A':=rowR 3 1 u2 (k+1) (natsV (bl.take (k+1)))) (fun h hh=>by rw [natsV_snoc _ _ hlt];exact hh) ?_
  refine .cast (d:=42) (u:=.int .i64 ((k+1:Nat):Int)) rfl (congrArg (Value.int .i64) (by omega)) ?_
  exact .back (k+1,u2) (by show k+1<=bl.length;omega) (by show bl.length - (k+1) < bl.length - k;omega)
 ·have hge:¬ k < bl.length:=by have h:¬ (k:Int) < (bl.length:Int):=of_decide_eq_false hb;omega
  obtain rfl:k=bl.length:=by omega
  rw [List.take_length]
  refine .exit (.thenExit (.thenExit (.blockExit (?_))))
  refine .next (.sr (.move ?_))
  refine .call (hc:=Tryz.call269) (sp:=jGet (k:=2) Reads.buf hlen (by decide) (by decide) (by decide)) (h:=?_)
  rintro _ _ ⟨rfl,rfl⟩
  refine .cast (d:=62) (u:=.int .u64 (m:Int)) rfl (congrArg (Value.int .u64) (by rw [show (8 * (2:Int)).toNat=16 from rfl,hh.no])) ?_
  refine .move (.assign (.assign (.z ?_)))
  refine .ret (?_)
  exact .ret2 (h1:=.tmp (t:=4) rfl) (h2:=.tmp (t:=5) rfl) ⟨_,⟨u,rfl,rfl⟩,Am.auto⟩
structure OI (J:JS) (i last:Nat) (bl:List Nat):Prop where
 hi:i<=4
 le:∀ k,k < i->∀ m b,IsHead J.gen m b (J.cur (slotAt k 0))->m<=last
 it:(last=0/\bl=[]) ∨ (∃ k,k < i/\IsHead J.gen last bl (J.cur (slotAt k 0))/\1<=last/\last<=J.last)
theorem OI.start (J:JS):OI J 0 0 []:=⟨by decide,fun k h=>absurd h (Nat.not_lt_zero _),.inl ⟨rfl,rfl⟩⟩
theorem OI.stay {J:JS} {i last:Nat} {bl:List Nat} (h:OI J i last bl) (hi:i < 4) (hno:∀ m b,IsHead J.gen m b (J.cur (slotAt i 0))->m<=last):OI J (i+1) last bl:=by
 refine ⟨by omega,fun k hk m b hm=>?_,?_⟩
 ·by_cases hki:k=i
  ·subst hki;exact hno m b hm
  ·exact h.le k (by omega) m b hm
 ·rcases h.it with h1 | ⟨k,h1,h2⟩
  ·exact .inl h1
  ·exact .inr ⟨k,by omega,h2⟩
theorem OI.takes {J:JS} {i last m:Nat} {bl b:List Nat} (h:OI J i last bl) (hi:i < 4) (hh:IsHead J.gen m b (J.cur (slotAt i 0))) (hm:last < m) (h1:m<=J.last):OI J (i+1) m b:=by
 refine ⟨by omega,fun k hk m' b' hm'=>?_,.inr ⟨i,by omega,hh,by omega,h1⟩⟩
 by_cases hki:k=i
 ·subst hki
  rw [(hh.one hm').1]
  exact Nat.le_refl _
 ·have:=h.le k (by omega) m' b' hm'
  omega
theorem OI.done {n:Nat} {J:JS} {last:Nat} {bl:List Nat} (h:OI J 4 last bl) (ho:HeadsOk n J):last=J.last/\∃ l,Fit n l/\bl=l.map (·.1)/\(∀ i (h:i < l.length),J.cur (slotAt (J.last % 4) (i+1))=l[i].2)/\(J.ch=l ∨ (J.ch=[]/\∀ p∈l,J.cur p.1=p.2)):=by
 by_cases h0:J.last=0
 ·rcases h.it with ⟨h1,h2⟩ | ⟨k,_,_,h1,h2⟩
  ·exact ⟨by omega,[],Fit.nil n,h2,(fun i hi=>by cases hi),.inl (ho.zero h0)⟩
  ·omega
 ·obtain ⟨l,t1,t2,t3,t4⟩:=ho.top h0
  have hle:=h.le (J.last % 4) (by omega) _ _ t2
  rcases h.it with ⟨h1,h2⟩ | ⟨k,hk,hh,h1,h2⟩
  ·omega
  ·have hlast:last=J.last:=by omega
   subst hlast
   refine ⟨rfl,l,t1,?_,t3,t4⟩
   rcases ho.each k (by omega) with h5 | ⟨m,b,h5,h6,h7,h8⟩
   ·exact absurd h5 (fun h5=>hh.not h5)
   ·obtain ⟨e1,e2⟩:=hh.one h5
    subst e1
    subst h8
    exact (hh.one t2).2
theorem lay_same (cur:Nat->Bytes):∀ (l:List (Nat×Bytes)),(∀ p∈l,cur p.1=p.2)->lay cur l=cur
 | [],_=>rfl
 | p :: l,h=>by
  show lay (wr cur p.1 p.2) l=cur
  have e:wr cur p.1 p.2=cur:=by
   funext k
   unfold wr
   split
   ·rename_i hk;subst hk;exact (h p (List.mem_cons_self ..)).symm
   ·rfl
  rw [e]
  exact lay_same cur l (fun q hq=>h q (List.mem_cons_of_mem _ hq))
theorem HeadsOk.small {n:Nat} {J:JS} (h:HeadsOk n J) (hn:n<=65536) {i m:Nat} {bl:List Nat} (hh:IsHead J.gen m bl (J.cur (slotAt i 0))):∀ x∈bl,x < 4294967296:=by
 intro x hx
 obtain ⟨k,hk,rfl⟩:=List.mem_iff_getElem.1 hx
 have h1:=beNat_lt (seg (J.cur (slotAt i 0)) (32+4 * k) 4 false)
 rw [hh.nth k hk,seg_length (by rw [hh.len];have:=hh.few;omega)] at h1
 exact h1
theorem jOpenG {d n:Nat} {J:JS} (hn:246<=n) (hn2:n<=65536) (ho:HeadsOk n J) (hlt:J.last < 2 ^ 64) :
  Spec Tryz.prog 140 #[.pointer (some ⟨d,0,none⟩)] [DevR d n J.cur 0] fun F v M=>∃ j,v=.tuple #[.pointer (some ⟨j,0,none⟩),.int .i64 0]/\M=JR j d n J.settled :: F:=by
 refine Spec.intro Tryz.func140 rfl rfl fun B F=>?_
 simp only [Tryz.ntmps140,List.cons_append,List.nil_append,env0,Nat.reduceAdd]
 refine .sr (.assign (.assign (.z (.seq (.sr (.move ?_))))))
 refine .call (hc:=Tryz.call130) (sp:=devBlocksR (n:=n) (t:=0) (cur:=J.cur)) (h:=?_)
 rintro _ _ ⟨rfl,rfl⟩
 refine .lss ?_
 refine .z ?_
 refine .condF rfl (congrArg Value.bool (by first|simp;done|simp;omega|omega)) ?_
 refine .skip (.next (.sr (.move ?_)))
 refine .call (hc:=Tryz.call215) (sp:=jFirst (n:=n) (t:=0) (cur:=J.cur) (by omega)) (h:=?_)
 rintro _ _ ⟨rfl,rfl⟩
 rw [ho.gen]
 refine .move ?_
 refine .extract ?_
 refine .extract ?_
 refine .cast (d:=20) (u:=.bool true) rfl (congrArg Value.bool (decide_eq_true ho.magic)) ?_
 refine .assign (.assign (.z (.seq (.sr (.move ?_)))))
 refine .not ?_
 refine .z ?_
 refine .condF rfl rfl ?_
 refine .skip (.next (.sr (.move (.move ?_))))
 refine .mkMap fun m25=>?_
 refine .build ?_ (bdJ _ _ _)
 refine .box fun b27=>?_
 refine .assign (.z (.seq (.sr (.move (.z (.block ?_))))))
 have hgen:J.gen < 2 ^ 64:=ho.gen ▸ le8_lt _ _ _
 refine .emp (rowR.nil (e:=3) (size:=1) _) ?_
 refine .loopA (σ:=Nat×Nat×Value×List Nat) (fun y=>[(0,.pointer (some ⟨d,0,none⟩)),(6,.pointer (some ⟨b27,0,none⟩)),(28,.int .i64 ((y.1:Nat):Int))]) (fun y=>[pt b27 (jO d J.gen y.2.1 y.2.2.1 m25),rowR 3 1 y.2.2.1 y.2.2.2.length (natsV y.2.2.2),pt m25 (.map #[] 0),DevR d n J.cur 0]++F) (fun y=>OI J y.1 y.2.1 y.2.2.2) (fun y=>4 - y.1) (0,0,.slice none 0 0,[]) (OI.start J) ?_
 rintro y hy
 obtain ⟨i,last,u,bl⟩:=y
 simp only at hy ⊢
 refine .sr ?_
 refine .lss ?_
 refine .z (.seq ?_)
 refine .cond rfl (fun hb=>?_) (fun hb=>?_)
 ·have hi4:i < 4:=by have h:(i:Int) < 4:=of_decide_eq_true hb;omega
  rcases ho.each i (by omega) with hno | ⟨m,b,hh,hm1,hm2,hm3⟩
  ·refine .skip (.next (.seq (.block (.sr (.move (.assign (.x (.move (.move ?_)))))))))
   refine .call (hc:=Tryz.call216) (sp:=jHeader0 (j:=b27) (d:=d) (n:=n) (t:=0) (gen:=J.gen) (last:=last) (mp:=m25) (i:=i) (ov:=u) (cur:=J.cur) (by omega) hn hno) (h:=?_)
   rintro _ _ ⟨rfl,rfl⟩
   simp only [List.cons_append,List.nil_append]
   refine .move ?_
   refine .extract ?_
   refine .extract ?_
   refine .assign (.assign (.x (.move (.move ?_))))
   refine .nilCheck ?_
   refine .fa ?_ fo320_2
   refine .ld ?_ sc134
   refine .gtr ?_
   refine .z ?_
   refine .condF rfl (congrArg Value.bool (by first|simp;done|simp;omega|omega)) ?_
   refine .skip (.blockNormal (.next (.region ?_)))
   refine .add ?_
   refine .move (.nil ?_)
   refine .cast (d:=28) (u:=.int .i64 ((i+1:Nat):Int)) rfl (congrArg (Value.int .i64) (by omega)) ?_
   exact .back (i+1,last,u,bl) (hy.stay hi4 (fun m b hm=>absurd hno (fun h=>hm.not h))) (by show 4 - (i+1) < 4 - i;omega)
  ·by_cases hgt:last < m
   ·refine .skip (.next (.seq (.block (.sr (.move (.assign (.x (.move (.move ?_)))))))))
    refine .call (hc:=Tryz.call216) (sp:=jHeader (j:=b27) (d:=d) (n:=n) (t:=0) (gen:=J.gen) (last:=last) (mp:=m25) (i:=i) (ov:=u) (cur:=J.cur) (by omega) hn hh (ho.small hn2 hh)) (h:=?_)
    rintro _ _ ⟨u2,rfl,rfl⟩
    simp only [List.cons_append,List.nil_append]
    refine .fact (rowR_shape (el:=3) (size:=1) (v:=u2) (k:=b.length) (xs:=natsV b)) (fun ⟨A2,c2,hu2,_,_,_,_⟩=>?_)
    subst hu2
    refine .move ?_
    refine .extract ?_
    refine .extract ?_
    refine .assign (.assign (.x (.move (.move ?_))))
    refine .nilCheck ?_
    refine .fa ?_ fo320_2
    refine .ld ?_ sc134
    refine .gtr ?_
    refine .z ?_
    refine .condT rfl (congrArg Value.bool (by first|simp;done|simp;omega|omega)) ?_
    refine .region (.move (.move (.move (.move ?_))))
    refine .nilCheck ?_
    refine .fa ?_ fo320_2
    refine .st ?_ sc134
    refine .nilCheck ?_
    refine .fa ?_ fo320_4
    refine .st ?_ sc80
    refine .nil (.blockNormal (.next (.region ?_)))
    refine .add ?_
    refine .move (.nil ?_)
    refine .cast (d:=28) (u:=.int .i64 ((i+1:Nat):Int)) rfl (congrArg (Value.int .i64) (by omega)) ?_
    exact .back (i+1,m,.slice A2 b.length c2,b) (hy.takes hi4 hh hgt hm2) (by show 4 - (i+1) < 4 - i;omega)
   ·refine .skip (.next (.seq (.block (.sr (.move (.assign (.x (.move (.move ?_)))))))))
    refine .call (hc:=Tryz.call216) (sp:=jHeader (j:=b27) (d:=d) (n:=n) (t:=0) (gen:=J.gen) (last:=last) (mp:=m25) (i:=i) (ov:=u) (cur:=J.cur) (by omega) hn hh (ho.small hn2 hh)) (h:=?_)
    rintro _ _ ⟨u2,rfl,rfl⟩
    simp only [List.cons_append,List.nil_append]
    refine .fact (rowR_shape (el:=3) (size:=1) (v:=u2) (k:=b.length) (xs:=natsV b)) (fun ⟨A2,c2,hu2,_,_,_,_⟩=>?_)
    subst hu2
    refine .move ?_
    refine .extract ?_
    refine .extract ?_
    refine .assign (.assign (.x (.move (.move ?_))))
    refine .nilCheck ?_
    refine .fa ?_ fo320_2
    refine .ld ?_ sc134
    refine .gtr ?_
    refine .z ?_
    refine .condF rfl (congrArg Value.bool (by first|simp;done|simp;omega|omega)) ?_
    refine .skip (.blockNormal (.next (.region ?_)))
    refine .add ?_
    refine .move (.nil ?_)
    refine .cast (d:=28) (u:=.int .i64 ((i+1:Nat):Int)) rfl (congrArg (Value.int .i64) (by omega)) ?_
    exact .back (i+1,last,u,bl) (hy.stay hi4 (fun m2 b2 hm=>by rw [<- (hh.one hm).1];omega)) (by show 4 - (i+1) < 4 - i;omega)
 ·have hi4:i=4:=by have h:¬ (i:Int) < 4:=of_decide_eq_false hb;have:=hy.hi;omega
  subst hi4
  obtain ⟨rfl,l,hfl,rfl,hdat,hch⟩:=hy.done ho
  have hfew:=hfl.few
  have hset:lay J.cur J.ch=lay J.cur l:=by
   rcases hch with h | ⟨h,h2⟩
   ·rw [h]
   ·rw [h,lay_same _ _ h2];rfl
  refine .to (A:=rowR 3 1 u (l.map (·.1)).length (natsV (l.map (·.1)))) (A':=rowR 3 1 u l.length (blocksV l)) (fun h hh=>by rw [natsV_blocks,List.length_map] at hh;exact hh) ?_
  refine .fact (rowR_shape (el:=3) (size:=1) (v:=u) (k:=l.length) (xs:=blocksV l)) (fun ⟨A,cc,hu,hR,hc1,hc2,hlen⟩=>?_)
  subst hu
  refine .blobsNil ?_
  refine .exit (.thenExit (.thenExit (.blockExit (?_))))
  refine .next (.seq (.sr (.move ?_)))
  refine .nilCheck ?_
  refine .fa ?_ fo320_4
  refine .ld ?_ sc80
  refine .lenS ?_ sl80
  refine .move (.z (.block ?_))
  refine .loopA (σ:=Nat×Array MapEntry×Nat×List ((Int×Int)×Value)×List (Value×Bytes)) (fun z=>[(0,.pointer (some ⟨d,0,none⟩)),(6,.pointer (some ⟨b27,0,none⟩)),(56,.int .i64 ((l.length:Nat):Int)),(57,.int .i64 ((z.1:Nat):Int))]) (fun z=>[pt b27 (jO d J.gen J.last (.slice A l.length cc) m25),rowR 3 1 (.slice A l.length cc) l.length (blocksV l),pt m25 (.map z.2.1 z.2.2.1),blobs z.2.2.2.2,DevR d n J.cur 0]++F) (fun z=>z.1<=l.length/\MapIs pairE z.2.1 z.2.2.1 z.2.2.2.1/\Kept z.2.2.2.1 z.2.2.2.2 (J.last % 4) (l.take z.1)) (fun z=>l.length - z.1) (0,#[],0,[],[]) ⟨Nat.zero_le _,MapIs.empty _ _,fun i hi=>by simp at hi⟩ ?_
  rintro z hz
  obtain ⟨k,es,c,kv,bl⟩:=z
  obtain ⟨hk0,hmz,hkz⟩:=hz
  simp only at hk0 hmz hkz ⊢
  refine .sr ?_
  refine .lss ?_
  refine .z (.seq ?_)
  refine .cond rfl (fun hb2=>?_) (fun hb2=>?_)
  ·have hkl:k < l.length:=by have h:(k:Int) < (l.length:Int):=of_decide_eq_true hb2;omega
   have hdk:=hdat k hkl
   have hsl:slotAt (J.last % 4) (k+1) < 245:=by unfold slotAt;omega
   refine .skip (.next (.seq (.block (.sr (.move (.assign (.x (.move ?_))))))))
   refine .nilCheck ?_
   refine .fa ?_ fo320_2
   refine .ld ?_ sc134
   refine .call (hc:=Tryz.call217) (sp:=slotN (a:=J.last)) (h:=?_)
   rintro _ _ ⟨rfl,rfl⟩
   refine .move ?_
   refine .build ?_ (bdPlace _ _)
   refine .alloc z325 fun b11=>?_
   refine .stV ?_ agg325
   refine .z ?_
   refine .dr ([pt b27 (jO d J.gen J.last (.slice A l.length cc) m25),pt b11 (.cells #[.int .i64 ((J.last % 4:Nat):Int),.int .i64 (k:Int)] 325 (0,0))]) [] 17 mixed .autoJ ?_
   refine .tk 0 rfl .move ?_
   refine .tk 1 rfl .nilCheck ?_
   refine .tk 2 rfl (.fa fo320_5) ?_
   refine .tk 3 rfl (.ld sc318) ?_
   refine .tk 4 rfl (.ldA agg325) ?_
   refine .tk 5 rfl .move ?_
   refine .tk 6 rfl (.fa fo325_0) ?_
   refine .tk 7 rfl (.ld sc3) ?_
   refine .tk 8 rfl .move ?_
   refine .tk 9 rfl .add ?_
   refine .tk 10 rfl (.build (bdPlace _ _)) ?_
   refine .on 11 rfl fun hnp=>?_
   refine .call (hc:=Tryz.call219) (sp:=placeAt (a:=J.last % 4) (b:=k+1) (by omega)) (h:=?_)
   rintro _ _ ⟨rfl,rfl⟩
   refine .nil (.wa hnp ?_)
   refine .on 12 rfl fun hnp=>?_
   refine .call (hc:=Tryz.call218) (sp:=devRead (n:=n) (t:=0) (k:=slotAt (J.last % 4) (k+1)) (cur:=J.cur) (by omega)) (h:=?_)
   rintro _ _ ⟨gb,q,rfl,⟨hq1,hq2,hx5⟩,rfl⟩
   refine .nil (.wa hnp ?_)
   refine .tk 13 rfl .move ?_
   refine .tk 14 rfl .extract ?_
   refine .tk 15 rfl .extract ?_
   refine .on 16 rfl fun hnp=>?_
   refine .upd (k:=(((J.last % 4:Nat):Int),(k:Int))) klP hmz mp318 fun es2 c2 hm2=>?_
   refine .nil (.wa hnp ?_)
   refine .fin ?_
   refine .blockNormal (.next (.region ?_))
   refine .add ?_
   refine .move (.nil ?_)
   refine .blobsAdd (bl:=bl) (g:=gb) (k:=q) (xs:=J.cur (slotAt (J.last % 4) (k+1))) (by rw [hx5];exact hq1) ?_
   have hk3:Kept (kput kv (((J.last % 4:Nat):Int),(k:Int)) (.slice (some ⟨gb,0,none⟩) 512 q)) ((.slice (some ⟨gb,0,none⟩) (J.cur (slotAt (J.last % 4) (k+1))).length q,J.cur (slotAt (J.last % 4) (k+1))) :: bl) (J.last % 4) (l.take (k+1)) :=
    Kept.snoc hkz hkl (v:=.slice (some ⟨gb,0,none⟩) 512 q) (by rw [hx5,hdk])
   refine .cast (d:=57) (u:=.int .i64 ((k+1:Nat):Int)) rfl (congrArg (Value.int .i64) (by omega)) ?_
   exact .back (k+1,es2,c2,_,_) ⟨by show k+1<=l.length;omega,hm2,hk3⟩ (by show l.length - (k+1) < l.length - k;omega)
  ·have hge:¬ k < l.length:=by have h:¬ (k:Int) < (l.length:Int):=of_decide_eq_false hb2;omega
   obtain rfl:k=l.length:=by omega
   rw [List.take_length] at hkz
   refine .exit (.thenExit (.thenExit (.blockExit (?_))))
   refine .next (.seq (.sr (.move ?_)))
   refine .makeFuncB ?_
   refine .move ?_
   refine .makeFuncB ?_
   refine .buildS (fun b88=>?_) (bs220_2 _ _ _ _ _ _)
   refine .call (hc:=Tryz.call220) (sp:=jTriesC (Chain.cons (I:=[pt b27 (jO d J.gen J.last (.slice A l.length cc) m25),rowR 3 1 (.slice A l.length cc) l.length (blocksV l),pt m25 (.map es c),blobs bl,DevR d n J.cur 0]) (goesSettle (ch:=l) hmz hkz hfl (t:=0) (cur:=J.cur) (by decide)).sub (.cons (goesFlush (d:=d) (n:=n) (t:=0+l.length) (cur:=lay J.cur l)).sub .nil)) Reads.pt rfl (Nat.le_of_ble_eq_true rfl)) (h:=?_)
   rintro _ _ ⟨rfl,rfl⟩
   simp only [List.cons_append,List.nil_append]
   refine .assign (.x (.move ?_))
   refine .nei ?_
   refine .z ?_
   refine .condF rfl rfl ?_
   refine .skip (.next (.sr (.move (.move ?_))))
   refine .mkMap fun m95=>?_
   refine .nilCheck ?_
   refine .fa ?_ fo320_4
   refine .st ?_ sc80
   refine .nilCheck ?_
   refine .fa ?_ fo320_5
   refine .st ?_ sc318
   refine .x (.move (.assign (.assign (.z ?_))))
   refine .ret (?_)
   refine .blobsNil ?_
   refine .emp (rowR.nil (e:=3) (size:=1) _) ?_
   rw [<- hset]
   refine .shutR (JR.opens b27 d n J.settled) ⟨#[],0,m95,[],[],.slice none 0 0⟩ ⟨MapIs.empty _ _,Kept.nil,Fit.nil n,hn,hn2,hgen,hlt⟩ ?_
   exact .ret2 (h1:=.tmp (t:=2) rfl) (h2:=.tmp (t:=3) rfl) ⟨_,⟨_,rfl,rfl⟩,Am.auto⟩
theorem lay_other (cur:Nat->Bytes) (l:List (Nat×Bytes)) (k:Nat) (h:∀ p∈l,p.1≠k):lay cur l k=cur k:=by
 induction l generalizing cur with
 | nil=>rfl
 | cons p l ih =>
  show lay (wr cur p.1 p.2) l k=cur k
  rw [ih _ (fun q hq=>h q (List.mem_cons_of_mem _ hq))]
  unfold wr
  rw [if_neg (fun hh=>h p (List.mem_cons_self ..) hh.symm)]
theorem lay_view (cur:Nat->Bytes) (l:List (Nat×Bytes)) (hn:(l.map (·.1)).Nodup) (k:Nat):lay cur l k=(kget l k).getD (cur k):=by
 induction l generalizing cur with
 | nil=>rfl
 | cons p l ih =>
  obtain ⟨a,xs⟩:=p
  simp only [List.map_cons,List.nodup_cons] at hn
  show lay (wr cur a xs) l k=_
  rw [ih _ hn.2]
  by_cases h:k=a
  ·subst h
   rw [kget_none.2 hn.1]
   simp [kget,wr]
  ·simp only [kget,if_neg h,wr]
theorem dataL_low (s:Nat) (hs:s < 4) (l:List (Nat×Bytes)) (hl:l.length<=60):∀ p∈dataL s l,p.1 < 245:=by
 intro p hp
 obtain ⟨i,hi,rfl⟩:=List.mem_iff_getElem.1 hp
 rw [dataL_length] at hi
 rw [dataL_get s l i hi]
 unfold slotAt
 simp only
 omega
theorem JS.view_commits {n:Nat} {J:JS} {l:List (Nat×Bytes)} (hf:Fit n J.ch) (hl:Fit n l) (k:Nat) (hk:245<=k):(J.commits l).view k=(kget l k).getD (J.view k):=by
 unfold JS.commits
 split
 ·rename_i h;subst h;rfl
 ·show (kget l k).getD (J.wrote l k)=_
  congr 1
  unfold JS.wrote
  have h4:J.next % 4 < 4:=Nat.mod_lt _ (by decide)
  rw [show wr (lay (lay J.cur J.ch) (dataL (J.next % 4) l)) (slotAt (J.next % 4) 0) (headB J.gen J.next l) k=lay (lay J.cur J.ch) (dataL (J.next % 4) l) k from by unfold wr;rw [if_neg (by unfold slotAt;omega)]]
  rw [lay_other _ _ _ (fun p hp=>by have:=dataL_low _ h4 l hl.few p hp;omega),lay_view _ _ hf.apart]
  rfl
theorem kget_perm {a b:List (Nat×Bytes)} (h:a.Perm b) (hn:(b.map (·.1)).Nodup) (k:Nat):kget a k=kget b k:=by
 have hna:(a.map (·.1)).Nodup:=(h.map _).nodup_iff.2 hn
 cases hb:kget b k with
 | some v=>exact (kget_mem hna).2 (h.mem_iff.2 ((kget_mem hn).1 hb))
 | none =>
  rw [kget_none] at hb ⊢
  exact fun hh=>hb ((h.map _).mem_iff.1 hh)
def tagN (b:Bytes):Option Nat:=if 513<=b.length then some (b.length - 513) else none
structure Tagged (n r d:Nat) (J:JS):Prop where
 dev:d=r
 ok:HeadsOk n J
 last:J.last+1 < 2 ^ 64
 gen:J.gen < 2 ^ 64
 n2:n<=65536
theorem tagN_none {b:Bytes} (h:b.length=512):tagN b=none:=by unfold tagN;rw [h];rfl
def cm0 (V:Nat->Bytes):Nat->Bytes:=fun k=>if k < 2 then zeros else V k
theorem cm0_home (V:Nat->Bytes) {k:Nat} (h:2<=k):cm0 V k=V k:=if_neg (by omega)
theorem cm0_tag (V:Nat->Bytes):tagN (cm0 V 1)=none:=tagN_none zeros_length
structure TP (n:Nat) (V0 V:Nat->Bytes) (D:List Nat) (op:Bool) (y:Nat×Nat×CS):Prop where
 hop:y.2.2.op=op
 h0:∀ k,245<=k->k < n->y.2.2.J.view k=V0 k
 h1:∀ k,245<=k->k < n->y.2.2.view k=V k
 hd:y.2.2.W.map (·.1)=D
 tg:∀ r,tagN (V0 1)=some r->Tagged n r y.2.1 y.2.2.J
def TR (c n:Nat) (V0 V:Nat->Bytes) (D:List Nat) (op:Bool):HP:=fun h=>∃ y:Nat×Nat×CS,TP n V0 V D op y/\star [CR c y.1 y.2.1 n y.2.2] h
theorem TR.opens (c n:Nat) (V0 V:Nat->Bytes) (D:List Nat) (op:Bool):Opens (TR c n V0 V D op) (TP n V0 V D op) (fun y=>[CR c y.1 y.2.1 n y.2.2]):=⟨fun h hh=>hh,fun x hp h hh=>⟨x,hp,hh⟩⟩
attribute [irreducible] TR
def insD (D:List Nat) (k:Nat):List Nat:=if k∈D then D else D++[k]
variable {c n k:Nat} {V0 V:Nat->Bytes} {D:List Nat} {op:Bool}
theorem tOpen:Spec Tryz.prog 205 #[.pointer (some ⟨c,0,none⟩)] [TR c n V0 V D op] fun F v M=>v=.bool op/\M=TR c n V0 V D op :: F:=by
 refine Spec.opens (TR.opens c n V0 V D op) fun y hy=>(cOpenR (c:=c) (j:=y.1) (d:=y.2.1) (n:=n) (S:=y.2.2)).post ?_
 rintro F v M ⟨rfl,rfl⟩
 exact ⟨_,⟨congrArg Value.bool hy.hop,rfl⟩,Wk.shutR (TR.opens c n V0 V D op) y hy⟩
theorem tRead (h5:245<=k) (hk:k < n):Spec Tryz.prog 183 #[.pointer (some ⟨c,0,none⟩),.int .i64 (k:Int)] [TR c n V0 V D op] fun F v M=>∃ g q el,v=.tuple #[.slice (some ⟨g,0,none⟩) 512 q,.int .i64 0]/\(512<=q/\q<=maxLen/\(V k).length=512)/\M=buf g el q (bvs (V k)) :: TR c n V0 V D op :: F:=by
 refine Spec.opens (TR.opens c n V0 V D op) fun y hy=>(cRead (c:=c) (j:=y.1) (d:=y.2.1) (n:=n) (S:=y.2.2) h5 hk).post ?_
 rintro F v M ⟨g,q,el,rfl,⟨h1,h2,h3⟩,rfl⟩
 rw [hy.h1 k h5 hk] at h3
 refine ⟨_,⟨g,q,el,rfl,⟨h1,h2,h3⟩,rfl⟩,?_⟩
 rw [hy.h1 k h5 hk]
 exact Wk.second (TR.opens c n V0 V D op) y hy
theorem tWrite {m cc:Nat} {R:HP} {A:Addr} {xs:Bytes} (h5:245<=k) (hk:k < n) (hR:Reads R (some A) (bvs xs)) (hx:xs.length=m) (hm5:m=512) (hroom:k∈D ∨ D.length < 60) :
  Spec Tryz.prog 135 #[.pointer (some ⟨c,0,none⟩),.int .i64 (k:Int),.slice (some A) m cc] [TR c n V0 V D true,R] fun F v M=>v=okV/\M=TR c n V0 (wr V k xs) (insD D k) true :: R :: F:=by
 refine Spec.opens (TR.opens c n V0 V D true) fun y hy=>?_
 have hr:(kget y.2.2.W k).isSome=true ∨ y.2.2.W.length < 60:=by
  rcases hroom with h | h
  ·left
   cases hg:kget y.2.2.W k with
   | some v=>rfl
   | none=>rw [kget_none,hy.hd] at hg;exact absurd h hg
  ·right
   rw [<- hy.hd,List.length_map] at h
   exact h
 refine (cWrite (c:=c) (j:=y.1) (d:=y.2.1) (n:=n) (S:=y.2.2) hy.hop h5 hk hR hx hm5 hr).post ?_
 rintro F v M ⟨rfl,rfl⟩
 refine ⟨_,⟨rfl,rfl⟩,Wk.shutR (M:=R :: F) (TR.opens c n V0 (wr V k xs) (insD D k) true) (y.1,y.2.1,⟨y.2.2.J,kput y.2.2.W k xs,true,y.2.2.ov⟩) ⟨rfl,hy.h0,fun j h1 h2=>?_,?_,hy.tg⟩⟩
 ·have:=hy.h1 j h1 h2
  unfold CS.view at this ⊢
  simp only [kget_put,wr]
  split
  ·rfl
  ·exact this
 ·show (kput y.2.2.W k xs).map (·.1)=_
  rw [kput_keys,hy.hd];rfl
theorem tCommit:Spec Tryz.prog 139 #[.pointer (some ⟨c,0,none⟩)] [TR c n V0 V D true] fun F v M=>v=okV/\M=TR c n (cm0 V) V [] false :: F:=by
 refine Spec.opens (TR.opens c n V0 V D true) fun y hy=>(cCommitF (c:=c) (j:=y.1) (d:=y.2.1) (n:=n) (S:=y.2.2) hy.hop).post ?_
 rintro F v M ⟨L,hL,hW,hJ,rfl,rfl⟩
 have hv:∀ k,245<=k->k < n->(y.2.2.J.commits L).view k=V k:=fun k h1 h2=>by
  rw [JS.view_commits hJ (hW.perm hL) k h1,kget_perm hL hW.apart]
  exact hy.h1 k h1 h2
 exact ⟨_,⟨rfl,rfl⟩,Wk.shutR (M:=F) (TR.opens c n (cm0 V) V [] false) (y.1,y.2.1,⟨y.2.2.J.commits L,[],false,y.2.2.ov⟩) ⟨rfl,(fun k h1 h2=>by rw [cm0_home V (by omega)];exact hv k h1 h2),hv,rfl,fun r hr=>by rw [cm0_tag] at hr;cases hr⟩⟩
theorem tAbort:Spec Tryz.prog 170 #[.pointer (some ⟨c,0,none⟩)] [TR c n V0 V D true] fun F v M=>v=okV/\M=TR c n V0 V0 [] false :: F:=by
 refine Spec.opens (TR.opens c n V0 V D true) fun y hy=>(cAbort (c:=c) (j:=y.1) (d:=y.2.1) (n:=n) (S:=y.2.2) hy.hop).post ?_
 rintro F v M ⟨rfl,rfl⟩
 exact ⟨_,⟨rfl,rfl⟩,Wk.shutR (M:=F) (TR.opens c n V0 V0 [] false) (y.1,y.2.1,⟨y.2.2.J,[],false,y.2.2.ov⟩) ⟨rfl,hy.h0,hy.h0,rfl,hy.tg⟩⟩
theorem tBegin:Spec Tryz.prog 133 #[.pointer (some ⟨c,0,none⟩)] [TR c n V0 V D false] fun F v M=>v=okV/\M=TR c n V0 V D true :: F:=by
 refine Spec.opens (TR.opens c n V0 V D false) fun y hy=>(cBegin (c:=c) (j:=y.1) (d:=y.2.1) (n:=n) (S:=y.2.2) hy.hop).post ?_
 rintro F v M ⟨rfl,rfl⟩
 exact ⟨_,⟨rfl,rfl⟩,Wk.shutR (M:=F) (TR.opens c n V0 V D true) (y.1,y.2.1,⟨y.2.2.J,y.2.2.W,true,false⟩) ⟨rfl,hy.h0,hy.h1,hy.hd,hy.tg⟩⟩
end Go.Proofs.YtdmjkjeoamiedaaGreatDoor
end
section
namespace Go.Proofs.YtdmjkjeoamiedaaGreatDoor
open Go
theorem bdArea (a b:Int):BuildOk Tryz.prog 279 [(0,.int .i64 a),(1,.int .i64 b)] #[.int .i64 a,.int .i64 b]:=fun w=>by kernel_rfl
structure Pl where
 n:Nat
 ino:Nat
 im:Nat
 bm:Nat
 tb:Nat
 da:Nat
 dc:Nat
def Pl.cells (p:Pl):Array Value:=#[.int .i64 (p.n:Int),.int .i64 (p.ino:Int),.int .i64 (p.im:Int),.int .i64 (p.bm:Int),.int .i64 (p.tb:Int),.int .i64 (p.da:Int),.int .i64 (p.dc:Int)]
def alO (c:Nat) (p:Pl):Obj:=.cells #[.pointer (some ⟨c,0,none⟩),.int .i64 (p.n:Int),.int .i64 (p.ino:Int),.int .i64 (p.im:Int),.int .i64 (p.bm:Int),.int .i64 (p.tb:Int),.int .i64 (p.da:Int),.int .i64 (p.dc:Int)] 308 (0,0)
theorem bdAlloc (c:Nat) (a b cc d e f gg:Int):BuildOk Tryz.prog 308 [(0,.pointer (some ⟨c,0,none⟩)),(1,.agg #[.int .i64 a,.int .i64 b,.int .i64 cc,.int .i64 d,.int .i64 e,.int .i64 f,.int .i64 gg])] #[.pointer (some ⟨c,0,none⟩),.int .i64 a,.int .i64 b,.int .i64 cc,.int .i64 d,.int .i64 e,.int .i64 f,.int .i64 gg]:=fun w=>by kernel_rfl
def areaV (first many:Nat):Value:=.agg #[.int .i64 (first:Int),.int .i64 (many:Int)]
theorem alNew {c:Nat} {p:Pl}:Spec Tryz.prog 202 #[.pointer (some ⟨c,0,none⟩),.agg p.cells] [] fun F v M=>∃ a,v=.pointer (some ⟨a,0,none⟩)/\M=pt a (alO c p) :: F:=by
 refine Spec.intro Tryz.func202 rfl rfl fun B F=>?_
 simp only [Tryz.ntmps202,List.cons_append,List.nil_append,env0,Nat.reduceAdd]
 refine .sr ?_
 refine .box fun b3=>?_
 refine .assign (.x (.move ?_))
 refine .ldA ?_ agg199
 refine .build ?_ (bdAlloc _ _ _ _ _ _ _ _)
 refine .box fun b8=>?_
 refine .assign (.z ?_)
 refine .ret (?_)
 exact .ret1 (h1:=.tmp (t:=4) rfl) ⟨_,⟨_,rfl,rfl⟩,Am.auto⟩
theorem alBlocks {a c:Nat} {p:Pl}:Spec Tryz.prog 191 #[.pointer (some ⟨a,0,none⟩)] [pt a (alO c p)] fun F v M=>v=areaV p.bm p.dc/\M=pt a (alO c p) :: F:=by
 refine Spec.intro Tryz.func191 rfl rfl fun B F=>?_
 simp only [Tryz.ntmps191,List.cons_append,List.nil_append,env0,Nat.reduceAdd]
 refine .sr ?_
 refine .alloc z279 fun b2=>?_
 refine .z (.seq ?_)
 refine .dr ([pt a (alO c p)]) [11] 12 mixed .autoJ ?_
 refine .tk 0 rfl .move ?_
 refine .tk 1 rfl .nilCheck ?_
 refine .tk 2 rfl (.fa fo308_1) ?_
 refine .tk 3 rfl (.fa fo199_3) ?_
 refine .tk 4 rfl (.ld sc3) ?_
 refine .tk 5 rfl .move ?_
 refine .tk 6 rfl .nilCheck ?_
 refine .tk 7 rfl (.fa fo308_1) ?_
 refine .tk 8 rfl (.fa fo199_6) ?_
 refine .tk 9 rfl (.ld sc3) ?_
 refine .tk 10 rfl (.build (bdArea _ _)) ?_
 refine .on 11 rfl fun hnp=>?_
 refine .stV ?_ agg279
 refine .nil (.wb hnp ?_)
 refine .fin ?_
 refine .next ?_
 refine .ret (?_)
 exact .ret1 ⟨_,⟨rfl,rfl⟩,Am.auto⟩
theorem alInodes {a c:Nat} {p:Pl}:Spec Tryz.prog 192 #[.pointer (some ⟨a,0,none⟩)] [pt a (alO c p)] fun F v M=>v=areaV p.im p.ino/\M=pt a (alO c p) :: F:=by
 refine Spec.intro Tryz.func192 rfl rfl fun B F=>?_
 simp only [Tryz.ntmps192,List.cons_append,List.nil_append,env0,Nat.reduceAdd]
 refine .sr ?_
 refine .alloc z279 fun b2=>?_
 refine .z (.seq ?_)
 refine .dr ([pt a (alO c p)]) [11] 12 mixed .autoJ ?_
 refine .tk 0 rfl .move ?_
 refine .tk 1 rfl .nilCheck ?_
 refine .tk 2 rfl (.fa fo308_1) ?_
 refine .tk 3 rfl (.fa fo199_2) ?_
 refine .tk 4 rfl (.ld sc3) ?_
 refine .tk 5 rfl .move ?_
 refine .tk 6 rfl .nilCheck ?_
 refine .tk 7 rfl (.fa fo308_1) ?_
 refine .tk 8 rfl (.fa fo199_1) ?_
 refine .tk 9 rfl (.ld sc3) ?_
 refine .tk 10 rfl (.build (bdArea _ _)) ?_
 refine .on 11 rfl fun hnp=>?_
 refine .stV ?_ agg279
 refine .nil (.wb hnp ?_)
 refine .fin ?_
 refine .next ?_
 refine .ret (?_)
 exact .ret1 ⟨_,⟨rfl,rfl⟩,Am.auto⟩
theorem alReady {a c n:Nat} {p:Pl} {V0 V:Nat->Bytes} {D:List Nat} {op:Bool}:Spec Tryz.prog 207 #[.pointer (some ⟨a,0,none⟩)] [pt a (alO c p),TR c n V0 V D op] fun F v M=>v=.bool op/\M=pt a (alO c p) :: TR c n V0 V D op :: F:=by
 refine Spec.intro Tryz.func207 rfl rfl fun B F=>?_
 simp only [Tryz.ntmps207,List.cons_append,List.nil_append,env0,Nat.reduceAdd]
 refine .sr (.assign (.x (.move ?_)))
 refine .neNil ?_ ptr125
 refine .move ?_
 refine .gT ?_
 refine .move ?_
 refine .gT ?_
 refine .nilCheck ?_
 refine .gT ?_
 refine .fa ?_ fo308_0
 refine .gT ?_
 refine .ld ?_ sc124
 refine .gT ?_
 refine .call (hc:=Tryz.call205) (sp:=tOpen (n:=n) (V0:=V0) (V:=V) (D:=D) (op:=op)) (h:=?_)
 rintro _ _ ⟨rfl,rfl⟩
 refine .pickT ?_
 refine .assign (.z ?_)
 refine .ret (?_)
 exact .ret1 (h1:=.tmp (t:=2) rfl) ⟨_,⟨rfl,rfl⟩,Am.auto⟩
theorem areaEach {f first many:Nat} {cap:Array Value} (I:Nat->List HP) (H:Nat->Prop) (K:List HP->Prop) (hc:∀ args w,(callFunc f args).run Tryz.prog w=.ok (.enter f args) w) (hm:many<=65536) (hf:first<=65536) (h0:H 0)
  (hs:∀ j:Nat,4096 * j < many->H j->Spec Tryz.prog f (#[.int .i64 ((first+j:Nat):Int),.int .i64 ((4096 * j:Nat):Int),.int .i64 ((min (many - 4096 * j) 4096:Nat):Int)]++cap) (I j) fun F v M=>(v=.bool true/\H (j+1)/\M=I (j+1)++F) ∨ (v=.bool false/\∃ Q,K Q/\M=Q++F)) :
  Spec Tryz.prog 208 #[areaV first many,.func (.func f) #[] cap] (I 0) fun F v M=>v=.tuple #[]/\((∃ j,many<=4096 * j/\H j/\M=I j++F) ∨ ∃ Q,K Q/\M=Q++F):=by
 refine Spec.intro Tryz.func208 rfl rfl fun B F=>?_
 simp only [Tryz.ntmps208,List.cons_append,List.nil_append,env0,Nat.reduceAdd]
 refine .sr ?_
 refine .box fun b2=>?_
 refine .x (.assign (.z (.block ?_)))
 refine .loopA (σ:=Nat) (fun j=>[(1,.func (.func f) #[] cap),(2,.pointer (some ⟨b2,0,none⟩)),(4,.int .i64 ((4096 * j:Nat):Int))]) (fun j=>I j++(pt b2 (.cells #[.int .i64 (first:Int),.int .i64 (many:Int)] 279 (0,0)) :: F)) (fun j=>H j) (fun j=>many - 4096 * j) 0 h0 ?_ (hI:=Am.toMid)
 rintro j hp
 refine .seq (.sr (.move ?_))
 refine .fa ?_ fo279_1
 refine .ld ?_ sc3 (hm:=Mem.mid)
 refine .lss ?_
 refine .z ?_
 refine .cond rfl (fun hb=>?_) (fun hb=>?_)
 ·have hlt:4096 * j < many:=by have:=of_decide_eq_true hb;omega
  refine .skip (.next (.seq (.block (.sr (.move ?_)))))
  refine .fa ?_ fo279_0
  refine .ld ?_ sc3 (hm:=Mem.mid)
  refine .move ?_
  refine .quo ?_
  refine .add ?_
  refine .cast (d:=16) (u:=.int .i64 ((first+j:Nat):Int)) rfl (congrArg (Value.int .i64) (by omega)) ?_
  refine .move ?_
  refine .fa ?_ fo279_1
  refine .ld ?_ sc3 (hm:=Mem.mid)
  refine .move ?_
  refine .sub ?_
  refine .minI ?_
  refine .cast (d:=22) (u:=.int .i64 ((min (many - 4096 * j) 4096:Nat):Int)) rfl (congrArg (Value.int .i64) (by split<;>omega)) ?_
  refine .callF (t:=11) (vs:=[.int .i64 ((first+j:Nat):Int),.int .i64 ((4096 * j:Nat):Int),.int .i64 ((min (many - 4096 * j) 4096:Nat):Int)]) rfl rfl hc (by simpa using hs j hlt hp) ?_ Tk.app
  rintro v M (⟨rfl,hH,rfl⟩ | ⟨rfl,Q,hQ,rfl⟩)
  ·refine .not ?_
   refine .z ?_
   refine .condF rfl rfl ?_
   refine .skip (.blockNormal (.next (.region (.move ?_))))
   refine .add ?_
   refine .assign (.nil ?_)
   refine .cast (d:=4) (u:=.int .i64 ((4096 * (j+1):Nat):Int)) rfl (congrArg (Value.int .i64) (by omega)) ?_
   exact .back (j+1) hH (by omega) (hI:=.refl)
  ·refine .not ?_
   refine .z ?_
   refine .condT rfl rfl ?_
   refine .ret (.blockRet (.thenRet (.thenRet (.blockRet (?_)))))
   exact .ret0 ⟨_,⟨rfl,.inr ⟨Q,hQ,rfl⟩⟩,Am.trans_mid⟩
 ·have hge:¬ 4096 * j < many:=by have:=of_decide_eq_false hb;omega
  refine .exit (.thenExit (.thenExit (.blockExit (?_))))
  exact .ret0 ⟨_,⟨rfl,.inl ⟨j,by omega,hp,rfl⟩⟩,Am.trans_mid⟩
def dig (V:Nat->Bytes) (first k:Nat):Bool:=tb (V (first+k / 4096)) (k % 4096)
theorem dig_at (V:Nat->Bytes) (first j i:Nat) (hi:i < 4096):dig V first (4096 * j+i)=tb (V (first+j)) i:=by
 unfold dig
 rw [show (4096 * j+i) / 4096=j from by omega,show (4096 * j+i) % 4096=i from by omega]
theorem tb_cases (xs:Bytes):∀ n:Nat,(∀ i < n,tb xs i=true) ∨ ∃ i < n,tb xs i=false/\∀ j < i,tb xs j=true
 | 0=>.inl fun i hi=>by omega
 | n+1=>by
  rcases tb_cases xs n with h | ⟨i,hi,h1,h2⟩
  ·cases hn:tb xs n with
   | true =>
    refine .inl fun i hi=>?_
    by_cases hin:i=n
    ·subst hin;exact hn
    ·exact h i (by omega)
   | false=>exact .inr ⟨n,by omega,hn,h⟩
  ·exact .inr ⟨i,by omega,h1,h2⟩
def boxA (b a:Nat):HP:=pt b (.cells #[.pointer (some ⟨a,0,none⟩)] 125 (0,0))
def errC (b:Nat) (e:Int):HP:=pt b (.cells #[.int .i64 e] 28 (0,0))
def intC (b:Nat) (i:Int):HP:=pt b (.cells #[.int .i64 i] 3 (0,0))
theorem alTake1 {a c n b2 b4 b5 blk fr mj:Nat} {p:Pl} {V0 V:Nat->Bytes} {D:List Nat} (h5:245<=blk) (hk:blk < n) (hm:mj<=4096) (hfr:fr<=65536) (hroom:blk∈D ∨ D.length < 60) :
  Spec Tryz.prog 301 #[.int .i64 (blk:Int),.int .i64 (fr:Int),.int .i64 (mj:Int),.pointer (some ⟨b2,0,none⟩),.pointer (some ⟨b5,0,none⟩),.pointer (some ⟨b4,0,none⟩)] [boxA b2 a,errC b5 3,intC b4 (-1),pt a (alO c p),TR c n V0 V D true] fun F v M =>
   (v=.bool true/\(∀ i < mj,tb (V blk) i=true)/\M=[boxA b2 a,errC b5 3,intC b4 (-1),pt a (alO c p),TR c n V0 V D true]++F) ∨
   (v=.bool false/\∃ i,i < mj/\tb (V blk) i=false/\(∀ j < i,tb (V blk) j=true)/\M=[boxA b2 a,errC b5 0,intC b4 ((fr+i:Nat):Int),pt a (alO c p),TR c n V0 (wr V blk (setDigit (V blk) i true)) (insD D blk) true]++F):=by
 refine Spec.intro Tryz.func301 rfl rfl fun B F=>?_
 simp only [Tryz.ntmps301,List.cons_append,List.nil_append,env0,Nat.reduceAdd]
 simp only [boxA,errC,intC]
 refine .sr (.assign (.x ?_))
 refine .ld ?_ sc125
 refine .nilCheck ?_
 refine .fa ?_ fo308_0
 refine .ld ?_ sc124
 refine .move ?_
 refine .call (hc:=Tryz.call183) (sp:=tRead (n:=n) (V0:=V0) (V:=V) (D:=D) (op:=true) h5 hk) (h:=?_)
 rintro _ _ ⟨gb,q,el,rfl,⟨hq1,hq2,hl5⟩,rfl⟩
 refine .move ?_
 refine .extract ?_
 refine .extract ?_
 refine .assign (.assign (.z (.seq (.sr (.move ?_)))))
 refine .nei ?_
 refine .z ?_
 refine .condF rfl rfl ?_
 refine .skip (.next (.sr (.move (.move ?_))))
 refine .call (hc:=Tryz.call302) (sp:=bitsFirst Reads.buf hl5 (by decide) (m:=(mj:Int)) (by omega)) (h:=?_)
 rintro _ _ ⟨rfl,rfl⟩
 refine .assign (.z (.seq (.sr (.move ?_))))
 refine .lss ?_
 refine .z ?_
 rcases tb_cases (V blk) mj with hall | ⟨i,hi,hi0,hib⟩
 ·have hf0:first0 (V blk) mj=none:=first0_none hall
  refine .cast (d:=29) (u:=.bool true) rfl (congrArg Value.bool (by rw [Int.toNat_natCast,hf0];rfl)) ?_
  refine .condT rfl rfl ?_
  refine .sr (.assign (.z ?_))
  refine .ret (.thenRet (?_))
  exact .ret1 (h1:=.tmp (t:=9) rfl) ⟨_,.inl ⟨rfl,hall,rfl⟩,Am.auto⟩
 ·have hf0:first0 (V blk) mj=some i:=first0_some hi hi0 hib
  refine .cast (d:=29) (u:=.bool false) rfl (congrArg Value.bool (by rw [Int.toNat_natCast,hf0];exact decide_eq_false (by simp only;omega))) ?_
  refine .cast (d:=12) (u:=.int .i64 (i:Int)) rfl (congrArg (Value.int .i64) (by rw [Int.toNat_natCast,hf0])) ?_
  refine .condF rfl rfl ?_
  refine .skip (.next (.seq ?_))
  refine .dr ([pt b2 (.cells #[.pointer (some ⟨a,0,none⟩)] 125 (0,0)),pt a (alO c p)]) [13] 14 mixed .autoJ ?_
  refine .tk 0 rfl .move ?_
  refine .tk 1 rfl .move ?_
  refine .tk 2 rfl .add ?_
  refine .tk 3 rfl (.ld sc125) ?_
  refine .tk 4 rfl .nilCheck ?_
  refine .tk 5 rfl (.fa fo308_0) ?_
  refine .tk 6 rfl (.ld sc124) ?_
  refine .tk 7 rfl .move ?_
  refine .tk 8 rfl .move ?_
  refine .tk 9 rfl .move ?_
  refine .on 10 rfl fun hnp=>?_
  refine .call (hc:=Tryz.call287) (sp:=bitsSet Reads.buf hl5 (by decide) (k:=(i:Int)) (by omega) (by omega)) (h:=?_)
  rintro _ _ ⟨gc,kc,⟨rfl,hc1,hc2⟩,rfl⟩
  rw [Int.toNat_natCast]
  refine .nil (.wa hnp ?_)
  refine .on 11 rfl fun hnp=>?_
  refine .call (hc:=Tryz.call135) (sp:=tWrite (n:=n) (V0:=V0) (V:=V) (D:=D) h5 hk Reads.buf ((setDigit_length _ _ _).trans hl5) rfl hroom) (h:=?_)
  rintro _ _ ⟨rfl,rfl⟩
  refine .nil (.wa hnp ?_)
  refine .on 12 rfl fun hnp=>?_
  refine .st ?_ sc3
  refine .nil (.wa hnp ?_)
  refine .on 13 rfl fun hnp=>?_
  refine .st ?_ sc28
  refine .nil (.wb hnp ?_)
  refine .fin ?_
  refine .next (.sr (.assign (.z ?_)))
  refine .ret (?_)
  exact .ret1 (h1:=.tmp (t:=9) rfl) ⟨_,.inr ⟨rfl,i,hi,hi0,hib,rfl⟩,Am.auto⟩
def setD (V:Nat->Bytes) (first k:Nat) (on:Bool):Nat->Bytes:=wr V (first+k / 4096) (setDigit (V (first+k / 4096)) (k % 4096) on)
structure AreaOk (n first many:Nat):Prop where
 lo:245<=first
 hi:first+(many+4095) / 4096<=n
 few:many<=65536
 n2:n<=65536
theorem AreaOk.blk {n first many:Nat} (h:AreaOk n first many) {j:Nat} (hj:4096 * j < many):245<=first+j/\first+j < n:=by
 have:=h.lo
 have:=h.hi
 omega
def takeI (a c n b2 b4 b5:Nat) (p:Pl) (V0 V:Nat->Bytes) (D:List Nat):List HP:=[boxA b2 a,errC b5 3,intC b4 (-1),pt a (alO c p),TR c n V0 V D true]
def takeK (a c n b2 b4 b5 first many:Nat) (p:Pl) (V0 V:Nat->Bytes) (D:List Nat) (Q:List HP):Prop:=∃ k,k < many/\dig V first k=false/\(∀ i < k,dig V first i=true)/\Q=[boxA b2 a,errC b5 0,intC b4 (k:Int),pt a (alO c p),TR c n V0 (setD V first k true) (insD D (first+k / 4096)) true]
def takeH (V:Nat->Bytes) (first many j:Nat):Prop:=∀ i,i < 4096 * j->i < many->dig V first i=true
theorem takeEach {a c n b2 b4 b5 first many:Nat} {p:Pl} {V0 V:Nat->Bytes} {D:List Nat} (h:AreaOk n first many) (hroom:∀ j,4096 * j < many->first+j∈D ∨ D.length < 60) :
  Spec Tryz.prog 208 #[areaV first many,.func (.func 301) #[] #[.pointer (some ⟨b2,0,none⟩),.pointer (some ⟨b5,0,none⟩),.pointer (some ⟨b4,0,none⟩)]] (takeI a c n b2 b4 b5 p V0 V D)
   fun F v M=>v=.tuple #[]/\((∃ j,many<=4096 * j/\takeH V first many j/\M=takeI a c n b2 b4 b5 p V0 V D++F) ∨ ∃ Q,takeK a c n b2 b4 b5 first many p V0 V D Q/\M=Q++F):=by
 refine areaEach (fun _=>takeI a c n b2 b4 b5 p V0 V D) (takeH V first many) (takeK a c n b2 b4 b5 first many p V0 V D) Tryz.call301 h.few (by have:=h.hi;have:=h.n2;omega) (fun i hi=>by omega) fun j hj hH=>?_
 have hb:=h.blk hj
 have hs:=alTake1 (a:=a) (c:=c) (b2:=b2) (b4:=b4) (b5:=b5) (fr:=4096 * j) (mj:=min (many - 4096 * j) 4096) (p:=p) (V0:=V0) (V:=V) hb.1 hb.2 (by omega) (by have:=h.few;omega) (hroom j hj)
 refine Spec.weak hs ?_
 rintro F v M (⟨rfl,hall,rfl⟩ | ⟨rfl,i,hi,hi0,hib,rfl⟩)
 ·refine ⟨_,.inl ⟨rfl,fun k hk hkm=>?_,rfl⟩,.refl⟩
  by_cases hkj:k < 4096 * j
  ·exact hH k hkj hkm
  ·have:=dig_at V first j (k - 4096 * j) (by omega)
   rw [show 4096 * j+(k - 4096 * j)=k from by omega] at this
   rw [this]
   exact hall _ (by omega)
 ·refine ⟨_,.inr ⟨rfl,_,⟨4096 * j+i,by omega,?_,fun k hk=>?_,rfl⟩,?_⟩,.refl⟩
  ·rw [dig_at V first j i (by omega)];exact hi0
  ·by_cases hkj:k < 4096 * j
   ·exact hH k hkj (by omega)
   ·have:=dig_at V first j (k - 4096 * j) (by omega)
    rw [show 4096 * j+(k - 4096 * j)=k from by omega] at this
    rw [this]
    exact hib _ (by omega)
  ·unfold setD
   rw [show (4096 * j+i) / 4096=j from by omega,show (4096 * j+i) % 4096=i from by omega]
theorem alTake {a c n first many:Nat} {p:Pl} {V0 V:Nat->Bytes} {D:List Nat} (h:AreaOk n first many) (hroom:∀ j,4096 * j < many->first+j∈D ∨ D.length < 60) :
  Spec Tryz.prog 272 #[.pointer (some ⟨a,0,none⟩),areaV first many] [pt a (alO c p),TR c n V0 V D true] fun F v M =>
   (∃ k,k < many/\dig V first k=false/\(∀ i < k,dig V first i=true)/\v=.tuple #[.int .i64 (k:Int),.int .i64 0]/\M=[pt a (alO c p),TR c n V0 (setD V first k true) (insD D (first+k / 4096)) true]++F) ∨
   ((∀ i < many,dig V first i=true)/\v=.tuple #[.int .i64 0,.int .i64 3]/\M=[pt a (alO c p),TR c n V0 V D true]++F):=by
 refine Spec.intro Tryz.func272 rfl rfl fun B F=>?_
 simp only [Tryz.ntmps272,List.cons_append,List.nil_append,env0,Nat.reduceAdd]
 refine .sr ?_
 refine .box fun b2=>?_
 refine .box fun b3=>?_
 refine .alloc z3 fun b4=>?_
 refine .alloc z28 fun b5=>?_
 refine .z (.seq (.sr ?_))
 refine .ld ?_ sc125
 refine .call (hc:=Tryz.call207) (sp:=alReady (n:=n) (V0:=V0) (V:=V) (D:=D) (op:=true)) (h:=?_)
 rintro _ _ ⟨rfl,rfl⟩
 refine .not ?_
 refine .z ?_
 refine .condF rfl rfl ?_
 refine .skip (.next (.sr ?_))
 refine .st ?_ sc3
 refine .st ?_ sc28
 refine .x ?_
 refine .ldA ?_ agg279
 refine .makeFuncB ?_
 refine .call (hc:=Tryz.call208) (sp:=takeEach (a:=a) (c:=c) (b2:=b2) (b4:=b4) (b5:=b5) (p:=p) (V0:=V0) (V:=V) (D:=D) h hroom) (h:=?_)
 rintro _ _ ⟨rfl,(⟨j,hj,hH,rfl⟩ | ⟨Q,⟨k,hk,hk0,hkb,rfl⟩,rfl⟩)⟩<;>simp only [takeI,List.cons_append,List.nil_append,errC,intC]
 ·refine .z (.seq (.sr ?_))
  refine .ld ?_ sc28
  refine .nei ?_
  refine .z ?_
  refine .condT rfl rfl ?_
  refine .seq ?_
  refine .dr ([errC b5 3]) [2] 3 mixed .autoJ ?_
  refine .tk 0 rfl (.ld sc28) ?_
  refine .on 1 rfl fun hnp=>?_
  refine .st ?_ sc3
  refine .nil (.wa hnp ?_)
  refine .on 2 rfl fun hnp=>?_
  refine .st ?_ sc28
  refine .nil (.wb hnp ?_)
  refine .fin ?_
  refine .next ?_
  refine .ret (.thenRet (?_))
  exact .ret2 ⟨_,.inr ⟨fun i hi=>hH i (by omega) hi,rfl,rfl⟩,Am.auto⟩
 ·refine .z (.seq (.sr ?_))
  refine .ld ?_ sc28
  refine .nei ?_
  refine .z ?_
  refine .condF rfl rfl ?_
  refine .skip (.next (.sr ?_))
  refine .ld ?_ sc3
  refine .st ?_ sc3
  refine .st ?_ sc28
  refine .z ?_
  refine .ret (?_)
  exact .ret2 ⟨_,.inl ⟨k,hk,hk0,hkb,rfl,rfl⟩,Am.auto⟩
theorem alGive {a c n first many:Nat} {k:Nat} {p:Pl} {V0 V:Nat->Bytes} {D:List Nat} (h:AreaOk n first many) (hk:k < many) (hd:dig V first k=true) (hroom:first+k / 4096∈D ∨ D.length < 60) :
  Spec Tryz.prog 250 #[.pointer (some ⟨a,0,none⟩),areaV first many,.int .i64 (k:Int)] [pt a (alO c p),TR c n V0 V D true] fun F v M=>v=.int .i64 0/\M=[pt a (alO c p),TR c n V0 (setD V first k false) (insD D (first+k / 4096)) true]++F:=by
 refine Spec.intro Tryz.func250 rfl rfl fun B F=>?_
 simp only [Tryz.ntmps250,List.cons_append,List.nil_append,env0,Nat.reduceAdd]
 have hfew:=h.few
 have hn2:=h.n2
 have hhi:=h.hi
 have hlo:=h.lo
 refine .sr ?_
 refine .box fun b4=>?_
 refine .assign (.z (.seq (.sr (.move ?_))))
 refine .call (hc:=Tryz.call207) (sp:=alReady (n:=n) (V0:=V0) (V:=V) (D:=D) (op:=true)) (h:=?_)
 rintro _ _ ⟨rfl,rfl⟩
 refine .not ?_
 refine .z ?_
 refine .condF rfl rfl ?_
 refine .skip (.next (.seq (.sr (.move ?_))))
 refine .lss ?_
 refine .move ?_
 refine .cast (d:=15) (u:=.bool false) rfl (congrArg Value.bool (by first|simp;done|simp;omega|omega)) ?_
 refine .gT ?_
 refine .move ?_
 refine .gT ?_
 refine .fa ?_ fo279_1
 refine .gT ?_
 refine .ld ?_ sc3
 refine .gT ?_
 refine .geq ?_
 refine .pickF ?_
 refine .z ?_
 refine .condF rfl (congrArg Value.bool (by first|simp;done|simp;omega|omega)) ?_
 refine .skip (.next (.sr ?_))
 refine .fa ?_ fo279_0
 refine .ld ?_ sc3
 refine .move ?_
 refine .quo ?_
 refine .add ?_
 refine .cast (d:=25) (u:=.int .i64 ((first+k / 4096:Nat):Int)) rfl (congrArg (Value.int .i64) (by omega)) ?_
 refine .assign (.x (.move ?_))
 refine .nilCheck ?_
 refine .fa ?_ fo308_0
 refine .ld ?_ sc124
 refine .move ?_
 refine .call (hc:=Tryz.call183) (sp:=tRead (n:=n) (V0:=V0) (V:=V) (D:=D) (op:=true) (k:=first+k / 4096) (by omega) (by omega)) (h:=?_)
 rintro _ _ ⟨gb,q,el,rfl,⟨hq1,hq2,hl5⟩,rfl⟩
 refine .move ?_
 refine .extract ?_
 refine .extract ?_
 refine .assign (.assign (.z (.seq (.sr (.move ?_)))))
 refine .nei ?_
 refine .z ?_
 refine .condF rfl rfl ?_
 refine .skip (.next (.seq (.sr (.move (.move ?_)))))
 refine .rem ?_
 refine .call (hc:=Tryz.call286) (sp:=bitsTest Reads.buf hl5 (by decide) (by omega)) (h:=?_)
 rintro _ _ ⟨rfl,rfl⟩
 refine .cast (d:=41) (u:=.bool true) rfl (congrArg Value.bool (by unfold dig at hd;rw [<- hd];rfl)) ?_
 refine .not ?_
 refine .z ?_
 refine .condF rfl rfl ?_
 refine .skip (.next (.seq ?_))
 refine .dr ([pt a (alO c p)]) [] 11 mixed .autoJ ?_
 refine .tk 0 rfl .move ?_
 refine .tk 1 rfl .nilCheck ?_
 refine .tk 2 rfl (.fa fo308_0) ?_
 refine .tk 3 rfl (.ld sc124) ?_
 refine .tk 4 rfl .move ?_
 refine .tk 5 rfl .move ?_
 refine .tk 6 rfl .move ?_
 refine .tk 7 rfl .rem ?_
 refine .on 8 rfl fun hnp=>?_
 refine .call (hc:=Tryz.call287) (sp:=bitsSet Reads.buf hl5 (by decide) (k:=(k:Int) % 4096) (by omega) (by omega)) (h:=?_)
 rintro _ _ ⟨gc,kc,⟨rfl,hc1,hc2⟩,rfl⟩
 rw [show ((k:Int) % 4096).toNat=k % 4096 from by omega]
 refine .nil (.wa hnp ?_)
 refine .on 9 rfl fun hnp=>?_
 refine .call (hc:=Tryz.call135) (sp:=tWrite (n:=n) (V0:=V0) (V:=V) (D:=D) (k:=first+k / 4096) (by omega) (by omega) Reads.buf ((setDigit_length _ _ _).trans hl5) rfl hroom) (h:=?_)
 rintro _ _ ⟨rfl,rfl⟩
 refine .nil (.wa hnp ?_)
 refine .tk 10 rfl .assign ?_
 refine .fin ?_
 refine .next ?_
 refine .ret (?_)
 exact .ret1 (h1:=.tmp (t:=6) rfl) ⟨_,⟨rfl,rfl⟩,Am.auto⟩
structure PlOk (p:Pl):Prop where
 aI:AreaOk p.n p.im p.ino
 aB:AreaOk p.n p.bm p.dc
 i1:1<=p.ino
 i2:p.ino<=4096
 apart:p.im+1<=p.bm
 tbl:p.bm+(p.dc+4095) / 4096<=p.tb
 tab:p.tb+(p.ino+7) / 8<=p.da
 dat:p.da+p.dc=p.n
 d1:1<=p.dc
def Room (D:List Nat):Prop:=D.length < 60
theorem alTakeBlock {a c:Nat} {p:Pl} {V0 V:Nat->Bytes} {D:List Nat} (h:PlOk p) (hroom:Room D):Spec Tryz.prog 303 #[.pointer (some ⟨a,0,none⟩)] [pt a (alO c p),TR c p.n V0 V D true] fun F v M =>
   (∃ k,k < p.dc/\dig V p.bm k=false/\(∀ i < k,dig V p.bm i=true)/\v=.tuple #[.int .i64 ((p.da+k:Nat):Int),.int .i64 0]/\M=[pt a (alO c p),TR c p.n V0 (setD V p.bm k true) (insD D (p.bm+k / 4096)) true]++F) ∨
   ((∀ i < p.dc,dig V p.bm i=true)/\v=.tuple #[.int .i64 0,.int .i64 3]/\M=[pt a (alO c p),TR c p.n V0 V D true]++F):=by
 refine Spec.intro Tryz.func303 rfl rfl fun B F=>?_
 simp only [Tryz.ntmps303,List.cons_append,List.nil_append,env0,Nat.reduceAdd]
 have hn2:=h.aB.n2
 have hdat:=h.dat
 refine .sr (.assign (.assign (.z (.seq (.sr (.move ?_))))))
 refine .eqNil ?_ ptr125
 refine .z ?_
 refine .condF rfl rfl ?_
 refine .skip (.next (.sr (.move (.move ?_))))
 refine .call (hc:=Tryz.call191) (sp:=alBlocks) (h:=?_)
 rintro _ _ ⟨rfl,rfl⟩
 refine .call (hc:=Tryz.call272) (sp:=alTake (n:=p.n) (p:=p) (V0:=V0) (V:=V) (D:=D) h.aB (fun _ _=>.inr hroom)) (h:=?_)
 rintro _ _ (⟨k,hk,hk0,hkb,rfl,rfl⟩ | ⟨hall,rfl,rfl⟩)<;>simp only [List.cons_append,List.nil_append]
 ·refine .move ?_
  refine .extract ?_
  refine .extract ?_
  refine .assign (.assign (.z (.seq (.sr (.move ?_)))))
  refine .nei ?_
  refine .z ?_
  refine .condF rfl rfl ?_
  refine .skip (.next (.sr (.move ?_)))
  refine .nilCheck ?_
  refine .fa ?_ fo308_1
  refine .fa ?_ fo199_5
  refine .ld ?_ sc3
  refine .move ?_
  refine .add ?_
  refine .cast (d:=24) (u:=.int .i64 ((p.da+k:Nat):Int)) rfl (congrArg (Value.int .i64) (by omega)) ?_
  refine .assign (.assign (.z ?_))
  refine .ret (?_)
  exact .ret2 (h1:=.tmp (t:=2) rfl) (h2:=.tmp (t:=3) rfl) ⟨_,.inl ⟨k,hk,hk0,hkb,rfl,rfl⟩,Am.auto⟩
 ·refine .move ?_
  refine .extract ?_
  refine .extract ?_
  refine .assign (.assign (.z (.seq (.sr (.move ?_)))))
  refine .nei ?_
  refine .z ?_
  refine .condT rfl rfl ?_
  refine .sr (.move (.assign (.assign (.z ?_))))
  refine .ret (.thenRet (?_))
  exact .ret2 (h1:=.tmp (t:=2) rfl) (h2:=.tmp (t:=3) rfl) ⟨_,.inr ⟨hall,rfl,rfl⟩,Am.auto⟩
theorem alTakeInode {a c:Nat} {p:Pl} {V0 V:Nat->Bytes} {D:List Nat} (h:PlOk p) (hroom:Room D):Spec Tryz.prog 226 #[.pointer (some ⟨a,0,none⟩)] [pt a (alO c p),TR c p.n V0 V D true] fun F v M =>
   (∃ k,k < p.ino/\dig V p.im k=false/\(∀ i < k,dig V p.im i=true)/\v=.tuple #[.int .i64 (k:Int),.int .i64 0]/\M=[pt a (alO c p),TR c p.n V0 (setD V p.im k true) (insD D (p.im+k / 4096)) true]++F) ∨
   ((∀ i < p.ino,dig V p.im i=true)/\v=.tuple #[.int .i64 0,.int .i64 3]/\M=[pt a (alO c p),TR c p.n V0 V D true]++F):=by
 refine Spec.intro Tryz.func226 rfl rfl fun B F=>?_
 simp only [Tryz.ntmps226,List.cons_append,List.nil_append,env0,Nat.reduceAdd]
 refine .sr (.assign (.assign (.z (.seq (.sr (.move ?_))))))
 refine .eqNil ?_ ptr125
 refine .z ?_
 refine .condF rfl rfl ?_
 refine .skip (.next (.sr (.move (.move ?_))))
 refine .call (hc:=Tryz.call192) (sp:=alInodes) (h:=?_)
 rintro _ _ ⟨rfl,rfl⟩
 refine .call (hc:=Tryz.call272) (sp:=alTake (n:=p.n) (p:=p) (V0:=V0) (V:=V) (D:=D) h.aI (fun _ _=>.inr hroom)) (h:=?_)
 rintro _ _ (⟨k,hk,hk0,hkb,rfl,rfl⟩ | ⟨hall,rfl,rfl⟩)<;>simp only [List.cons_append,List.nil_append]
 ·refine .extract ?_
  refine .extract ?_
  refine .assign (.assign (.z ?_))
  refine .ret (?_)
  exact .ret2 (h1:=.tmp (t:=2) rfl) (h2:=.tmp (t:=3) rfl) ⟨_,.inl ⟨k,hk,hk0,hkb,rfl,rfl⟩,Am.auto⟩
 ·refine .extract ?_
  refine .extract ?_
  refine .assign (.assign (.z ?_))
  refine .ret (?_)
  exact .ret2 (h1:=.tmp (t:=2) rfl) (h2:=.tmp (t:=3) rfl) ⟨_,.inr ⟨hall,rfl,rfl⟩,Am.auto⟩
theorem alGiveBlock {a c k:Nat} {p:Pl} {V0 V:Nat->Bytes} {D:List Nat} (h:PlOk p) (hroom:Room D) (hk:k < p.dc) (hd:dig V p.bm k=true):Spec Tryz.prog 249 #[.pointer (some ⟨a,0,none⟩),.int .i64 ((p.da+k:Nat):Int)] [pt a (alO c p),TR c p.n V0 V D true] fun F v M =>
   v=.int .i64 0/\M=[pt a (alO c p),TR c p.n V0 (setD V p.bm k false) (insD D (p.bm+k / 4096)) true]++F:=by
 refine Spec.intro Tryz.func249 rfl rfl fun B F=>?_
 simp only [Tryz.ntmps249,List.cons_append,List.nil_append,env0,Nat.reduceAdd]
 have hn2:=h.aB.n2
 have hdat:=h.dat
 refine .sr (.assign (.z (.seq (.sr (.move ?_)))))
 refine .eqNil ?_ ptr125
 refine .z ?_
 refine .condF rfl rfl ?_
 refine .skip (.next (.seq (.sr (.move (.move ?_)))))
 refine .nilCheck ?_
 refine .fa ?_ fo308_1
 refine .fa ?_ fo199_5
 refine .ld ?_ sc3
 refine .lss ?_
 refine .z ?_
 refine .condF rfl (congrArg Value.bool (by first|simp;done|simp;omega|omega)) ?_
 refine .skip (.next (.seq ?_))
 refine .dr ([pt a (alO c p)]) [] 12 mixed .autoJ ?_
 refine .tk 0 rfl .move ?_
 refine .tk 1 rfl .move ?_
 refine .tk 3 rfl .move ?_
 refine .tk 4 rfl .move ?_
 refine .tk 5 rfl .nilCheck ?_
 refine .tk 6 rfl (.fa fo308_1) ?_
 refine .tk 7 rfl (.fa fo199_5) ?_
 refine .tk 8 rfl (.ld sc3) ?_
 refine .tk 9 rfl ((Qt.sub).eq (v':=.int .i64 (k:Int)) (congrArg (Value.int .i64) (by omega))) ?_
 refine .on 2 rfl fun hnp=>?_
 refine .call (hc:=Tryz.call191) (sp:=alBlocks) (h:=?_)
 rintro _ _ ⟨rfl,rfl⟩
 refine .nil (.wa hnp ?_)
 refine .on 10 rfl fun hnp=>?_
 refine .call (hc:=Tryz.call250) (sp:=alGive (n:=p.n) (p:=p) (V0:=V0) (V:=V) (D:=D) h.aB hk hd (.inr hroom)) (h:=?_)
 rintro _ _ ⟨rfl,rfl⟩
 simp only [List.cons_append,List.nil_append]
 refine .nil (.wa hnp ?_)
 refine .tk 11 rfl .assign ?_
 refine .fin ?_
 refine .next ?_
 refine .ret (?_)
 exact .ret1 (h1:=.tmp (t:=4) rfl) ⟨_,⟨rfl,rfl⟩,Am.auto⟩
theorem alGiveInode {a c k:Nat} {p:Pl} {V0 V:Nat->Bytes} {D:List Nat} (h:PlOk p) (hroom:Room D) (hk1:1<=k) (hk:k < p.ino) (hd:dig V p.im k=true):Spec Tryz.prog 180 #[.pointer (some ⟨a,0,none⟩),.int .i64 (k:Int)] [pt a (alO c p),TR c p.n V0 V D true] fun F v M =>
   v=.int .i64 0/\M=[pt a (alO c p),TR c p.n V0 (setD V p.im k false) (insD D (p.im+k / 4096)) true]++F:=by
 refine Spec.intro Tryz.func180 rfl rfl fun B F=>?_
 simp only [Tryz.ntmps180,List.cons_append,List.nil_append,env0,Nat.reduceAdd]
 refine .sr (.assign (.z (.seq (.sr (.move ?_)))))
 refine .eqNil ?_ ptr125
 refine .z ?_
 refine .condF rfl rfl ?_
 refine .skip (.next (.seq (.sr (.move ?_))))
 refine .eqi ?_
 refine .z ?_
 refine .condF rfl (congrArg Value.bool (by first|simp;done|simp;omega|omega)) ?_
 refine .skip (.next (.sr (.move (.move ?_))))
 refine .call (hc:=Tryz.call192) (sp:=alInodes) (h:=?_)
 rintro _ _ ⟨rfl,rfl⟩
 refine .move ?_
 refine .call (hc:=Tryz.call250) (sp:=alGive (n:=p.n) (p:=p) (V0:=V0) (V:=V) (D:=D) h.aI hk hd (.inr hroom)) (h:=?_)
 rintro _ _ ⟨rfl,rfl⟩
 simp only [List.cons_append,List.nil_append]
 refine .assign (.z ?_)
 refine .ret (?_)
 exact .ret1 (h1:=.tmp (t:=4) rfl) ⟨_,⟨rfl,rfl⟩,Am.auto⟩
theorem bsArea2 (a b c d:Int):BuildSOk Tryz.prog 305 2 [(0,.agg #[.int .i64 a,.int .i64 b]),(1,.agg #[.int .i64 c,.int .i64 d])] 279 #[.int .i64 a,.int .i64 b,.int .i64 c,.int .i64 d]:=fun w=>by kernel_rfl
theorem areaInts:intsOk Tryz.prog 279 2=true:=by kernel_rfl
def cnt (V:Nat->Bytes) (first m:Nat):Nat:=((List.range m).filter fun k=>dig V first k).length
theorem cnt_succ (V:Nat->Bytes) (first m:Nat):cnt V first (m+1)=cnt V first m+(if dig V first m then 1 else 0):=by
 unfold cnt
 rw [List.range_succ,List.filter_append,List.length_append]
 cases h:dig V first m<;>simp [h]
theorem cnt_le (V:Nat->Bytes) (first m:Nat):cnt V first m<=m:=by
 unfold cnt
 have:=List.length_filter_le (fun k=>dig V first k) (List.range m)
 rw [List.length_range] at this
 exact this
theorem cnt_block (V:Nat->Bytes) (first j:Nat):∀ m,m<=4096->cnt V first (4096 * j+m)=cnt V first (4096 * j)+count1 (V (first+j)) m
 | 0,_=>by rw [count1_zero];rfl
 | m+1,h=>by
  rw [show 4096 * j+(m+1)=4096 * j+m+1 from by omega,cnt_succ,cnt_block V first j m (by omega),count1_succ,dig_at V first j m (by omega)]
  omega
theorem alFree1 {a c n b2 b5 blk mj:Nat} {fr x:Int} {p:Pl} {V0 V:Nat->Bytes} {D:List Nat} {op:Bool} (h5:245<=blk) (hk:blk < n) (hm:mj<=4096) (hx:0<=x/\x<=1000000) :
  Spec Tryz.prog 256 #[.int .i64 (blk:Int),.int .i64 fr,.int .i64 (mj:Int),.pointer (some ⟨b2,0,none⟩),.pointer (some ⟨b5,0,none⟩)] [boxA b2 a,intC b5 x,pt a (alO c p),TR c n V0 V D op] fun F v M=>v=.bool true/\M=[boxA b2 a,intC b5 (x - count1 (V blk) mj),pt a (alO c p),TR c n V0 V D op]++F:=by
 refine Spec.intro Tryz.func256 rfl rfl fun B F=>?_
 simp only [Tryz.ntmps256,List.cons_append,List.nil_append,env0,Nat.reduceAdd]
 simp only [boxA,intC]
 have hcl:=count1_le (V blk) mj
 refine .sr (.assign (.x ?_))
 refine .ld ?_ sc125
 refine .nilCheck ?_
 refine .fa ?_ fo308_0
 refine .ld ?_ sc124
 refine .move ?_
 refine .call (hc:=Tryz.call183) (sp:=tRead (n:=n) (V0:=V0) (V:=V) (D:=D) (op:=op) h5 hk) (h:=?_)
 rintro _ _ ⟨gb,q,el,rfl,⟨hq1,hq2,hl5⟩,rfl⟩
 refine .move ?_
 refine .extract ?_
 refine .extract ?_
 refine .assign (.assign (.z (.seq ?_)))
 refine .dr ([pt b5 (.cells #[.int .i64 x] 3 (0,0))]) [5] 6 mixed .autoJ ?_
 refine .tk 0 rfl (.ld sc3) ?_
 refine .tk 1 rfl .move ?_
 refine .tk 2 rfl .move ?_
 refine .on 3 rfl fun hnp=>?_
 refine .call (hc:=Tryz.call257) (sp:=bitsCount Reads.buf hl5 (by decide) (m:=(mj:Int)) (by omega)) (h:=?_)
 rintro _ _ ⟨rfl,rfl⟩
 rw [Int.toNat_natCast]
 refine .nil (.wa hnp ?_)
 refine .tk 4 rfl .sub ?_
 refine .on 5 rfl fun hnp=>?_
 refine .st ?_ sc3
 refine .nil (.wb hnp ?_)
 refine .fin ?_
 refine .next (.sr (.assign (.z ?_)))
 refine .ret (?_)
 exact .ret1 (h1:=.tmp (t:=8) rfl) ⟨_,⟨rfl,rfl⟩,Am.auto⟩
theorem freeEach {a c n b2 b5 first many:Nat} {p:Pl} {V0 V:Nat->Bytes} {D:List Nat} {op:Bool} (h:AreaOk n first many) :
  Spec Tryz.prog 208 #[areaV first many,.func (.func 256) #[] #[.pointer (some ⟨b2,0,none⟩),.pointer (some ⟨b5,0,none⟩)]] [boxA b2 a,intC b5 (many:Int),pt a (alO c p),TR c n V0 V D op]
   fun F v M=>v=.tuple #[]/\M=[boxA b2 a,intC b5 ((many:Int) - cnt V first many),pt a (alO c p),TR c n V0 V D op]++F:=by
 have hfew:=h.few
 have key:=areaEach (f:=256) (first:=first) (many:=many) (cap:=#[.pointer (some ⟨b2,0,none⟩),.pointer (some ⟨b5,0,none⟩)]) (fun j=>[boxA b2 a,intC b5 ((many:Int) - cnt V first (min (4096 * j) many)),pt a (alO c p),TR c n V0 V D op]) (fun _=>True) (fun _=>False) Tryz.call256 h.few (by have:=h.hi;have:=h.n2;omega) trivial fun j hj _=>?_
 ·have e0:((many:Int) - cnt V first (min (4096 * 0) many))=many:=by
   rw [show min (4096 * 0) many=0 from by omega];rfl
  simp only [e0] at key
  refine Spec.weak key ?_
  rintro F v M ⟨rfl,(⟨j,hj,_,rfl⟩ | ⟨Q,hQ,_⟩)⟩
  ·rw [show min (4096 * j) many=many from by omega]
   exact ⟨_,⟨rfl,rfl⟩,.refl⟩
  ·exact hQ.elim
 ·have hb:=h.blk hj
  have hcl:=cnt_le V first (min (4096 * j) many)
  have hs:=alFree1 (a:=a) (c:=c) (b2:=b2) (b5:=b5) (fr:=((4096 * j:Nat):Int)) (mj:=min (many - 4096 * j) 4096) (x:=(many:Int) - cnt V first (min (4096 * j) many)) (p:=p) (V0:=V0) (V:=V) (D:=D) (op:=op) hb.1 hb.2 (by omega) (by omega)
  refine Spec.weak hs ?_
  rintro F v M ⟨rfl,rfl⟩
  refine ⟨_,.inl ⟨rfl,trivial,rfl⟩,?_⟩
  have hc:=cnt_block V first j (min (many - 4096 * j) 4096) (by omega)
  rw [show 4096 * j+min (many - 4096 * j) 4096=min (4096 * (j+1)) many from by omega] at hc
  rw [show min (4096 * j) many=4096 * j from by omega]
  rw [show ((many:Int) - cnt V first (min (4096 * (j+1)) many))=(many:Int) - cnt V first (4096 * j) - count1 (V (first+j)) (min (many - 4096 * j) 4096) from by omega]
  exact .refl
theorem alFree0 {a c n first many:Nat} {p:Pl} {V0 V:Nat->Bytes} {D:List Nat} {op:Bool} (h:AreaOk n first many):Spec Tryz.prog 190 #[.pointer (some ⟨a,0,none⟩),areaV first many] [pt a (alO c p),TR c n V0 V D op] fun F v M=>v=.int .i64 ((many:Int) - cnt V first many)/\M=[pt a (alO c p),TR c n V0 V D op]++F:=by
 refine Spec.intro Tryz.func190 rfl rfl fun B F=>?_
 simp only [Tryz.ntmps190,List.cons_append,List.nil_append,env0,Nat.reduceAdd]
 refine .sr ?_
 refine .box fun b2=>?_
 refine .box fun b3=>?_
 refine .assign (.x ?_)
 refine .fa ?_ fo279_1
 refine .ld ?_ sc3
 refine .alloc z3 fun b5=>?_
 refine .st ?_ sc3
 refine .x ?_
 refine .ldA ?_ agg279
 refine .makeFuncB ?_
 refine .call (hc:=Tryz.call208) (sp:=freeEach (a:=a) (c:=c) (b2:=b2) (b5:=b5) (p:=p) (V0:=V0) (V:=V) (D:=D) (op:=op) h) (h:=?_)
 rintro _ _ ⟨rfl,rfl⟩
 simp only [List.cons_append,List.nil_append,intC]
 refine .x ?_
 refine .ld ?_ sc3
 refine .assign (.z ?_)
 refine .ret (?_)
 exact .ret1 (h1:=.tmp (t:=4) rfl) ⟨_,⟨rfl,rfl⟩,Am.auto⟩
theorem alFree {a c:Nat} {p:Pl} {V0 V:Nat->Bytes} {D:List Nat} {op:Bool} (h:PlOk p):Spec Tryz.prog 112 #[.pointer (some ⟨a,0,none⟩)] [pt a (alO c p),TR c p.n V0 V D op] fun F v M=>v=.tuple #[.int .i64 ((p.dc:Int) - cnt V p.bm p.dc),.int .i64 ((p.ino:Int) - cnt V p.im p.ino)]/\M=[pt a (alO c p),TR c p.n V0 V D op]++F:=by
 refine Spec.intro Tryz.func112 rfl rfl fun B F=>?_
 simp only [Tryz.ntmps112,List.cons_append,List.nil_append,env0,Nat.reduceAdd]
 refine .sr (.assign (.assign (.z (.seq (.sr (.move ?_))))))
 refine .eqNil ?_ ptr125
 refine .z ?_
 refine .condF rfl rfl ?_
 refine .skip (.next (.sr (.move (.move ?_))))
 refine .call (hc:=Tryz.call191) (sp:=alBlocks) (h:=?_)
 rintro _ _ ⟨rfl,rfl⟩
 refine .call (hc:=Tryz.call190) (sp:=alFree0 (n:=p.n) (p:=p) (V0:=V0) (V:=V) (D:=D) (op:=op) h.aB) (h:=?_)
 rintro _ _ ⟨rfl,rfl⟩
 simp only [List.cons_append,List.nil_append]
 refine .move (.move ?_)
 refine .call (hc:=Tryz.call192) (sp:=alInodes) (h:=?_)
 rintro _ _ ⟨rfl,rfl⟩
 refine .call (hc:=Tryz.call190) (sp:=alFree0 (n:=p.n) (p:=p) (V0:=V0) (V:=V) (D:=D) (op:=op) h.aI) (h:=?_)
 rintro _ _ ⟨rfl,rfl⟩
 simp only [List.cons_append,List.nil_append]
 refine .assign (.assign (.z ?_))
 refine .ret (?_)
 exact .ret2 (h1:=.tmp (t:=2) rfl) (h2:=.tmp (t:=3) rfl) ⟨_,⟨rfl,rfl⟩,Am.auto⟩
def one0:Bytes:=zeros.set 0 1
theorem one0_length:one0.length=512:=by unfold one0;rw [List.length_set];exact zeros_length
def fmtV (V:Nat->Bytes) (first:Nat) (z:Bytes):Nat->Nat->Bytes
 | 0=>V
 | j+1=>wr (fmtV V first z j) (first+j) z
def fmtD (D:List Nat) (first:Nat):Nat->List Nat
 | 0=>D
 | j+1=>insD (fmtD D first j) (first+j)
theorem insD_length (D:List Nat) (k:Nat):(insD D k).length<=D.length+1:=by unfold insD;split<;>simp
theorem fmtD_length (D:List Nat) (first:Nat):∀ j,(fmtD D first j).length<=D.length+j
 | 0=>Nat.le_refl _
 | j+1=>by
  have:=fmtD_length D first j
  have:=insD_length (fmtD D first j) (first+j)
  show (insD _ _).length<=_
  omega
theorem fmtV_at (V:Nat->Bytes) (first:Nat) (z:Bytes) (k:Nat):∀ j,fmtV V first z j k=if first<=k/\k < first+j then z else V k
 | 0=>by rw [if_neg (by omega)];rfl
 | j+1=>by
  show wr (fmtV V first z j) (first+j) z k=_
  unfold wr
  rw [fmtV_at V first z k j]
  by_cases h:k=first+j
  ·rw [if_pos h,if_pos (by omega)]
  ·rw [if_neg h]
   by_cases h2:first<=k/\k < first+j
   ·rw [if_pos h2,if_pos (by omega)]
   ·rw [if_neg h2,if_neg (by omega)]
def fmtZ (p:Pl) (first many:Nat):Bytes:=if first=p.im/\many=p.ino then one0 else zeros
theorem fmtZ_length (p:Pl) (first many:Nat):(fmtZ p first many).length=512:=by unfold fmtZ;split;exact one0_length;exact zeros_length
def arC (b first many:Nat):HP:=pt b (.cells #[.int .i64 (first:Int),.int .i64 (many:Int)] 279 (0,0))
theorem alFormat1 {a c n b1 b3 b5 blk first many:Nat} {x y:Int} {p:Pl} {V0 V:Nat->Bytes} {D:List Nat} (h5:245<=blk) (hk:blk < n) (hroom:blk∈D ∨ D.length < 60) :
  Spec Tryz.prog 209 #[.int .i64 (blk:Int),.int .i64 x,.int .i64 y,.pointer (some ⟨b5,0,none⟩),.pointer (some ⟨b1,0,none⟩),.pointer (some ⟨b3,0,none⟩)] [arC b5 first many,boxA b1 a,errC b3 0,pt a (alO c p),TR c n V0 V D true] fun F v M=>v=.bool true/\M=[arC b5 first many,boxA b1 a,errC b3 0,pt a (alO c p),TR c n V0 (wr V blk (fmtZ p first many)) (insD D blk) true]++F:=by
 refine Spec.intro Tryz.func209 rfl rfl fun B F=>?_
 simp only [Tryz.ntmps209,List.cons_append,List.nil_append,env0,Nat.reduceAdd]
 simp only [arC,boxA,errC]
 refine .sr (.assign (.x ?_))
 refine .mkSN 512 z5 so33 (by decide) (by decide) fun b11=>?_
 refine .to (r:=.here) (A':=buf b11 5 512 (bvs zeros)) (fun h hh=>by unfold zeros;rw [bvs_replicate];exact hh) ?_
 refine .assign (.z (.seq (.seq ?_)))
 refine .dr ([pt b5 (.cells #[.int .i64 (first:Int),.int .i64 (many:Int)] 279 (0,0)),pt b1 (.cells #[.pointer (some ⟨a,0,none⟩)] 125 (0,0))]) [] 4 mixed .autoJ ?_
 refine .tk 0 rfl (.ldA agg279) ?_
 refine .tk 1 rfl (.ld sc125) ?_
 refine .on 2 rfl fun hnp=>?_
 refine .call (hc:=Tryz.call192) (sp:=alInodes) (h:=?_)
 rintro _ _ ⟨rfl,rfl⟩
 refine .nil (.wa hnp ?_)
 refine .tk 3 rfl (Qt.eqStr (xs:=[(first:Int),(many:Int)]) (ys:=[(p.im:Int),(p.ino:Int)]) areaInts) ?_
 refine .fin ?_
 refine .next ?_
 refine .cond rfl (fun hb=>?_) (fun hb=>?_)
 ·have hz:fmtZ p first many=one0:=by
   have:=of_decide_eq_true hb
   simp only [List.cons.injEq,and_true] at this
   unfold fmtZ;rw [if_pos (by omega)]
  refine .region (.move ?_)
  refine .idx1 ?_ so33
  refine .stB (i:=0) ?_ sc5 (by rw [bvs_length,zeros_length];decide)
  refine .to (r:=.here) (A':=buf b11 5 512 (bvs (fmtZ p first many))) (fun h hh=>by rw [hz];unfold one0;rw [bvs_set];exact hh) ?_
  refine .z (.seq (.sr ?_))
  refine .ld ?_ sc28
  refine .eqi ?_
  refine .z ?_
  refine .condT rfl rfl ?_
  refine .region ?_
  refine .ld ?_ sc125
  refine .nilCheck ?_
  refine .fa ?_ fo308_0
  refine .ld ?_ sc124
  refine .move (.move ?_)
  refine .call (hc:=Tryz.call135) (sp:=tWrite (n:=n) (V0:=V0) (V:=V) (D:=D) h5 hk Reads.buf (xs:=fmtZ p first many) (fmtZ_length _ _ _) rfl hroom) (h:=?_)
  rintro _ _ ⟨rfl,rfl⟩
  refine .st ?_ sc28
  refine .x ?_
  refine .ld ?_ sc28
  refine .eqi ?_
  refine .assign (.z ?_)
  refine .ret (?_)
  exact .ret1 (h1:=.tmp (t:=9) rfl) ⟨_,⟨rfl,rfl⟩,Am.auto⟩
 ·have hz:fmtZ p first many=zeros:=by
   have:=of_decide_eq_false hb
   unfold fmtZ;rw [if_neg (fun h=>this (by rw [h.1,h.2]))]
  refine .to (A:=buf b11 5 512 (bvs zeros)) (A':=buf b11 5 512 (bvs (fmtZ p first many))) (fun h hh=>by rw [hz];exact hh) ?_
  refine .skip (.next (.seq (.sr ?_)))
  refine .ld ?_ sc28
  refine .eqi ?_
  refine .z ?_
  refine .condT rfl rfl ?_
  refine .region ?_
  refine .ld ?_ sc125
  refine .nilCheck ?_
  refine .fa ?_ fo308_0
  refine .ld ?_ sc124
  refine .move (.move ?_)
  refine .call (hc:=Tryz.call135) (sp:=tWrite (n:=n) (V0:=V0) (V:=V) (D:=D) h5 hk Reads.buf (xs:=fmtZ p first many) (fmtZ_length _ _ _) rfl hroom) (h:=?_)
  rintro _ _ ⟨rfl,rfl⟩
  refine .st ?_ sc28
  refine .x ?_
  refine .ld ?_ sc28
  refine .eqi ?_
  refine .assign (.z ?_)
  refine .ret (?_)
  exact .ret1 (h1:=.tmp (t:=9) rfl) ⟨_,⟨rfl,rfl⟩,Am.auto⟩
theorem fmtEach {a c n b1 b3 b5 first many:Nat} {p:Pl} {V0 V:Nat->Bytes} {D:List Nat} (h:AreaOk n first many) (hroom:D.length+(many+4095) / 4096<=60) :
  Spec Tryz.prog 208 #[areaV first many,.func (.func 209) #[] #[.pointer (some ⟨b5,0,none⟩),.pointer (some ⟨b1,0,none⟩),.pointer (some ⟨b3,0,none⟩)]] [arC b5 first many,boxA b1 a,errC b3 0,pt a (alO c p),TR c n V0 V D true]
   fun F v M=>v=.tuple #[]/\M=[arC b5 first many,boxA b1 a,errC b3 0,pt a (alO c p),TR c n V0 (fmtV V first (fmtZ p first many) ((many+4095) / 4096)) (fmtD D first ((many+4095) / 4096)) true]++F:=by
 have key:=areaEach (f:=209) (first:=first) (many:=many) (cap:=#[.pointer (some ⟨b5,0,none⟩),.pointer (some ⟨b1,0,none⟩),.pointer (some ⟨b3,0,none⟩)]) (fun j=>[arC b5 first many,boxA b1 a,errC b3 0,pt a (alO c p),TR c n V0 (fmtV V first (fmtZ p first many) j) (fmtD D first j) true]) (fun j=>j<=(many+4095) / 4096) (fun _=>False) Tryz.call209 h.few (by have:=h.hi;have:=h.n2;omega) (Nat.zero_le _) fun j hj _=>?_
 ·refine Spec.weak key ?_
  rintro F v M ⟨rfl,(⟨j,hj,hjl,rfl⟩ | ⟨Q,hQ,_⟩)⟩
  ·rw [show j=(many+4095) / 4096 from by omega]
   exact ⟨_,⟨rfl,rfl⟩,.refl⟩
  ·exact hQ.elim
 ·have hb:=h.blk hj
  have hl:=fmtD_length D first j
  have hs:=alFormat1 (a:=a) (c:=c) (b1:=b1) (b3:=b3) (b5:=b5) (first:=first) (many:=many) (x:=((4096 * j:Nat):Int)) (y:=((min (many - 4096 * j) 4096:Nat):Int)) (p:=p) (V0:=V0) (V:=fmtV V first (fmtZ p first many) j) (D:=fmtD D first j) hb.1 hb.2 (.inr (by omega))
  refine Spec.weak hs ?_
  rintro F v M ⟨rfl,rfl⟩
  exact ⟨_,.inl ⟨rfl,by omega,rfl⟩,.refl⟩
def fmtA (p:Pl) (V:Nat->Bytes):Nat->Bytes:=fmtV (fmtV V p.im (fmtZ p p.im p.ino) ((p.ino+4095) / 4096)) p.bm (fmtZ p p.bm p.dc) ((p.dc+4095) / 4096)
def fmtB (p:Pl) (D:List Nat):List Nat:=fmtD (fmtD D p.im ((p.ino+4095) / 4096)) p.bm ((p.dc+4095) / 4096)
theorem alFormat {a c:Nat} {p:Pl} {V0 V:Nat->Bytes} {D:List Nat} (h:PlOk p) (hD:D.length<=1:=by exact Nat.zero_le _):Spec Tryz.prog 137 #[.pointer (some ⟨a,0,none⟩)] [pt a (alO c p),TR c p.n V0 V D true] fun F v M=>v=.int .i64 0/\M=[pt a (alO c p),TR c p.n V0 (fmtA p V) (fmtB p D) true]++F:=by
 refine Spec.intro Tryz.func137 rfl rfl fun B F=>?_
 simp only [Tryz.ntmps137,List.cons_append,List.nil_append,env0,Nat.reduceAdd]
 have h4:=h.i2
 have h6:=h.aB.few
 refine .sr ?_
 refine .box fun b1=>?_
 refine .assign (.z (.seq (.sr ?_)))
 refine .ld ?_ sc125
 refine .call (hc:=Tryz.call207) (sp:=alReady (n:=p.n) (V0:=V0) (V:=V) (D:=D) (op:=true)) (h:=?_)
 rintro _ _ ⟨rfl,rfl⟩
 refine .not ?_
 refine .z ?_
 refine .condF rfl rfl ?_
 refine .skip (.next (.sr ?_))
 refine .alloc z28 fun b3=>?_
 refine .st ?_ sc28
 refine .z (.seq (.seq ?_))
 refine .dr ([boxA b1 a]) [] 7 mixed .autoJ ?_
 refine .tk 0 rfl (.ld sc125) ?_
 refine .tk 2 rfl (.ld sc125) ?_
 refine .tk 6 rfl .move ?_
 refine .on 1 rfl fun hnp=>?_
 refine .call (hc:=Tryz.call192) (sp:=alInodes) (h:=?_)
 rintro _ _ ⟨rfl,rfl⟩
 refine .nil (.wa hnp ?_)
 refine .on 3 rfl fun hnp=>?_
 refine .call (hc:=Tryz.call191) (sp:=alBlocks) (h:=?_)
 rintro _ _ ⟨rfl,rfl⟩
 refine .nil (.wa hnp ?_)
 refine .on 4 rfl fun hnp=>?_
 refine .buildS (fun b13=>?_) (bsArea2 _ _ _ _)
 refine .nil (.wa hnp ?_)
 refine .tk 5 rfl (.lenS sl305) ?_
 refine .fin ?_
 refine .next (.block ?_)
 refine .loopN 3 (RC.succ ?_)
 refine .sr ?_
 refine .lss ?_
 refine .z (.seq ?_)
 refine .condT rfl (congrArg Value.bool (by first|simp;done|simp;omega|omega)) ?_
 refine .skip (.next (.seq (.block (.sr ?_))))
 refine .idx ?_ so305
 refine .ldAR (i:=0) (us:=[.int .i64 (p.im:Int),.int .i64 (p.ino:Int)]) ?_ agg279 Reads.pt rfl (Nat.le_of_ble_eq_true rfl) (R:=pt b13 (.cells #[.int .i64 (p.im:Int),.int .i64 (p.ino:Int),.int .i64 (p.bm:Int),.int .i64 (p.dc:Int)] 279 (0,0)))
 refine .alloc z279 fun b5_0=>?_
 refine .stV ?_ agg279
 refine .y ?_
 refine .ldA ?_ agg279
 refine .makeFuncB ?_
 refine .call (hc:=Tryz.call208) (sp:=fmtEach (a:=a) (c:=c) (b1:=b1) (b3:=b3) (b5:=b5_0) (p:=p) (V0:=V0) (V:=V) (D:=D) h.aI (by omega)) (h:=?_)
 rintro _ _ ⟨rfl,rfl⟩
 simp only [List.cons_append,List.nil_append]
 refine .nil (.blockNormal (.next (.region ?_)))
 refine .add ?_
 refine .move (.nil ?_)
 refine .again (RC.succ ?_)
 refine .sr ?_
 refine .lss ?_
 refine .z (.seq ?_)
 refine .condT rfl (congrArg Value.bool (by first|simp;done|simp;omega|omega)) ?_
 refine .skip (.next (.seq (.block (.sr ?_))))
 refine .idx ?_ so305
 refine .ldAR (i:=2) (us:=[.int .i64 (p.bm:Int),.int .i64 (p.dc:Int)]) ?_ agg279 Reads.pt rfl (Nat.le_of_ble_eq_true rfl) (R:=pt b13 (.cells #[.int .i64 (p.im:Int),.int .i64 (p.ino:Int),.int .i64 (p.bm:Int),.int .i64 (p.dc:Int)] 279 (0,0)))
 refine .alloc z279 fun b5_1=>?_
 refine .stV ?_ agg279
 refine .y ?_
 refine .ldA ?_ agg279
 refine .makeFuncB ?_
 refine .call (hc:=Tryz.call208) (sp:=fmtEach (a:=a) (c:=c) (b1:=b1) (b3:=b3) (b5:=b5_1) (p:=p) (V0:=V0) (V:=fmtV V p.im (fmtZ p p.im p.ino) ((p.ino+4095) / 4096)) (D:=fmtD D p.im ((p.ino+4095) / 4096)) h.aB (by have:=fmtD_length D p.im ((p.ino+4095) / 4096);omega)) (h:=?_)
 rintro _ _ ⟨rfl,rfl⟩
 simp only [List.cons_append,List.nil_append]
 refine .nil (.blockNormal (.next (.region ?_)))
 refine .add ?_
 refine .move (.nil ?_)
 refine .again (RC.succ ?_)
 refine .sr ?_
 refine .lss ?_
 refine .z (.seq ?_)
 refine .condF rfl (congrArg Value.bool (by first|simp;done|simp;omega|omega)) ?_
 refine .exit (.thenExit (.thenExit (.blockExit (?_))))
 refine .next (.sr ?_)
 refine .ld ?_ sc28
 refine .assign (.z ?_)
 refine .ret (?_)
 exact .ret1 (h1:=.tmp (t:=2) rfl) ⟨_,⟨rfl,rfl⟩,Am.auto⟩
end Go.Proofs.YtdmjkjeoamiedaaGreatDoor
end
