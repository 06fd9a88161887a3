/- A part of the proof of lj: texts of this work put together. -/
import Derived.Test.YtmihjfcbofejoaaGreatDoorQd5
import Derived.KernelRfl
set_option linter.unusedVariables false
set_option linter.unusedSimpArgs false
set_option linter.unusedSectionVars false
section
namespace Go.Proofs.YtmihjfcbofejoaaGreatDoor
open Go
theorem Si :Tryz.prog.underlying 251=some (.int .u64):=by kernel_rfl
theorem sc86 :ah Tryz.prog 86=true:=by kernel_rfl
theorem Ng :dh Tryz.prog 151 6=true:=by kernel_rfl
theorem Pr :ad Tryz.prog 151 1 5=true:=by kernel_rfl
theorem shr1 (m:Nat):((m:Int)).fdiv (2 ^ (min (1:Int).toNat IntKind.u64.bits))=((m / 2:Nat):Int):=by
 rw [show (2:Int) ^ (min (1:Int).toNat IntKind.u64.bits)=2 from by decide,Int.fdiv_eq_ediv_of_nonneg _ (by decide)]
 omega
theorem vf {gf:Nat} {cap:Array Value} {n:Nat} {p:Nat->Bool} {L0:List HP} (hc:∀ args w,(callFunc gf args).run Tryz.prog w=.ok (.enter gf args) w) (hf:∀ i,i < n->Spec Tryz.prog gf (#[.int .i64 ((i:Nat):Int)]++cap) L0 (fun F v M=>v=.bool (p i)/\M=L0++F)) (hn:n<=1073741824)
  (hm:∀ i j,i<=j->p i=true->p j=true):Spec Tryz.prog 102 #[.int .i64 ((n:Nat):Int),.func (.func gf) #[] cap] L0 fun F v M=>∃ k,v=.int .i64 ((k:Nat):Int)/\(k<=n/\(∀ i,i < k->p i=false)/\∀ i,k<=i->i < n->p i=true)/\M=L0++F:=by
 refine Spec.intro Tryz.func102 rfl rfl fun B F=>?_
 simp only [Tryz.ntmps102,List.cons_append,List.nil_append,env0,Nat.reduceAdd]
 refine .sr (.assign (.x (.move (.assign (.assign (.z (.seq (.block ?_))))))))
 refine .loopA (σ:=Nat×Nat) (fun s=>[(0,.int .i64 ((n:Nat):Int)),(1,.func (.func gf) #[] cap),(5,.int .i64 ((s.1:Nat):Int)),(6,.int .i64 ((s.2:Nat):Int))]) (fun _=>L0++F) (fun s=>s.1<=s.2/\s.2<=n/\(∀ i,i < s.1->p i=false)/\∀ i,s.2<=i->i < n->p i=true) (fun s=>s.2 - s.1) (0,n) ⟨Nat.zero_le _,Nat.le_refl _,fun i h=>absurd h (Nat.not_lt_zero _),fun i h1 h2=>absurd h2 (by have:n<=i:=h1;omega)⟩ ?_
 rintro s hp
 obtain ⟨i,j⟩:=s
 obtain ⟨hij,hjn,hlo,hhi⟩:=hp
 simp only at hij hjn hlo hhi
 refine .seq (.sr (.move (.move ?_)))
 refine .lss ?_
 refine .z ?_
 refine .cond rfl (fun hd=>?_) (fun hd=>?_)
 ·have hlt:i < j:=by have h:((i:Nat):Int) < ((j:Nat):Int):=of_decide_eq_true hd;omega
  refine .skip (.next (.block (.sr (.move (.move ?_)))))
  refine .add ?_
  refine .cast (d:=14) (u:=.int .i64 (((i+j:Nat)):Int)) rfl (cI9 (by omega)) ?_
  refine .cvt ?_ un3 Si
  refine .cast (d:=15) (u:=.int .u64 (((i+j:Nat)):Int)) rfl (cI9 (jg (by omega))) ?_
  refine .shr ?_
  refine .cast (d:=16) (u:=.int .u64 ((((i+j) / 2:Nat)):Int)) rfl (cI9 (shr1 _)) ?_
  refine .cvt ?_ Si un3
  refine .cast (d:=17) (u:=.int .i64 ((((i+j) / 2:Nat)):Int)) rfl (cI9 (zf (by omega))) ?_
  refine .assign (.x (.move (.move ?_)))
  refine .callV (hc:=hc) (sp:=hf ((i+j) / 2) (by omega)) (tk:=Tk.app) (h:=?_)
  rintro _ _ ⟨rfl,rfl⟩
  refine .not ?_
  refine .z ?_
  refine .cond rfl (fun hq=>?_) (fun hq=>?_)
  ·have hpf:p ((i+j) / 2)=false:=by simpa using hq
   refine .region (.move ?_)
   refine .add ?_
   refine .assign (.nil (.blockNormal ?_))
   exact .back ((i+j) / 2+1,j) ⟨by show (i+j) / 2+1<=j;omega,hjn,fun q hq2=>(by cases hpq:p q;rfl;exact absurd (hm q ((i+j) / 2) (by have:q < (i+j) / 2+1:=hq2;omega) hpq) (by rw [hpf];decide)),hhi⟩ (show j - ((i+j) / 2+1) < j - i by omega)
  ·have hpt:p ((i+j) / 2)=true:=by simpa using hq
   refine .region (.move (.assign (.nil (.blockNormal ?_))))
   exact .back (i,(i+j) / 2) ⟨by show i<=(i+j) / 2;omega,by show (i+j) / 2<=n;omega,hlo,fun q hq1 hq2=>hm _ q hq1 hpt⟩ (show (i+j) / 2 - i < j - i by omega)
 ·have hge:i=j:=by have h:¬ ((i:Nat):Int) < ((j:Nat):Int):=of_decide_eq_false hd;omega
  subst hge
  refine .exit (.thenExit (.thenExit (.blockExit (?_))))
  refine .next (.sr (.move (.assign (.z (.ret (?_))))))
  exact .ret1 (h1:=.tmp (t:=4) rfl) ⟨_,⟨i,rfl,⟨hjn,hlo,hhi⟩,rfl⟩,Am.auto⟩
theorem Sj {cs co s f ab ao c i:Nat} {off base:Int} {path:aa} {rows:List SRow} {os:List (Nat×Obj)} {x:SRow} (hx:rows[i]?=some x) (hok:SRowOk os x) (hR:Reads (rowR 151 6 (.slice (some ⟨ab,ao,none⟩) rows.length c) rows.length (rows.flatMap SRow.v)) (some ⟨ab,ao,none⟩) (rows.flatMap SRow.v)) :
  Spec Tryz.prog 103 (#[.int .i64 ((i:Nat):Int)]++#[.pointer (some ⟨cs,0,none⟩),.pointer (some ⟨co,0,none⟩)]) [pt cs (.cells #[.pointer (some ⟨s,0,none⟩)] 86 (0,0)),pt co (.cells #[.int .i64 off] 3 (0,0)),pt s (sgO f path base rows (.slice (some ⟨ab,ao,none⟩) rows.length c)),rowR 151 6 (.slice (some ⟨ab,ao,none⟩) rows.length c) rows.length (rows.flatMap SRow.v)] fun F v M=>v=.bool (decide (off < x.b.base+x.b.span))/\M=[pt cs (.cells #[.pointer (some ⟨s,0,none⟩)] 86 (0,0)),pt co (.cells #[.int .i64 off] 3 (0,0)),pt s (sgO f path base rows (.slice (some ⟨ab,ao,none⟩) rows.length c)),rowR 151 6 (.slice (some ⟨ab,ao,none⟩) rows.length c) rows.length (rows.flatMap SRow.v)]++F:=by
 refine Spec.intro Tryz.func103 rfl rfl fun B F=>?_
 simp only [Tryz.ntmps103,List.cons_append,List.nil_append,env0,Nat.reduceAdd]
 have hil:i < rows.length:=(List.getElem?_eq_some_iff.1 hx).1
 have hrng:=hok.rng
 have hc0:(rows.flatMap SRow.v)[i * 6+0]?=some (.int .i64 x.b.base):=by
  have h1:=g8 SRow.v_len _ _ _ hx
  have h2:(((rows.flatMap SRow.v).drop (i * 6)).take 6)[0]?=some (.int .i64 x.b.base):=by rw [h1];rfl
  rw [List.getElem?_take,if_pos (by decide),List.getElem?_drop] at h2
  exact h2
 have hc1:(rows.flatMap SRow.v)[i * 6+1]?=some (.int .i64 x.b.span):=by
  have h1:=g8 SRow.v_len _ _ _ hx
  have h2:(((rows.flatMap SRow.v).drop (i * 6)).take 6)[1]?=some (.int .i64 x.b.span):=by rw [h1];rfl
  rw [List.getElem?_take,if_pos (by decide),List.getElem?_drop] at h2
  exact h2
 refine .sr (.assign (.z (.seq ?_)))
 refine .dr ([pt cs (.cells #[.pointer (some ⟨s,0,none⟩)] 86 (0,0)),pt co (.cells #[.int .i64 off] 3 (0,0)),pt s (sgO f path base rows (.slice (some ⟨ab,ao,none⟩) rows.length c)),rowR 151 6 (.slice (some ⟨ab,ao,none⟩) rows.length c) rows.length (rows.flatMap SRow.v)]) [] 22 mixed .autoJ ?_
 refine .tk 0 rfl (.ld sc86) ?_
 refine .tk 1 rfl .nilCheck ?_
 refine .tk 2 rfl (.fa ic) ?_
 refine .tk 3 rfl (.ld ts) ?_
 refine .tk 4 rfl .move ?_
 refine .tk 5 rfl (.idx Bd) ?_
 refine .tk 6 rfl (.fa xr) ?_
 refine .tk 7 rfl ((Qt.fa qa).eq (congrArg (fun z=>Value.pointer (some ⟨ab,z,none⟩)) (show ao+i * 6+0+0=ao+(i * 6+0) by omega))) ?_
 refine .tk 8 rfl (Qt.ldR (i:=i * 6+0) sc3 hR hc0) ?_
 refine .tk 9 rfl (.ld sc86) ?_
 refine .tk 10 rfl .nilCheck ?_
 refine .tk 11 rfl (.fa ic) ?_
 refine .tk 12 rfl (.ld ts) ?_
 refine .tk 13 rfl .move ?_
 refine .tk 14 rfl (.idx Bd) ?_
 refine .tk 15 rfl (.fa xr) ?_
 refine .tk 16 rfl ((Qt.fa ow).eq (congrArg (fun z=>Value.pointer (some ⟨ab,z,none⟩)) (show ao+i * 6+0+1=ao+(i * 6+1) by omega))) ?_
 refine .tk 17 rfl (Qt.ldR (i:=i * 6+1) sc3 hR hc1) ?_
 refine .tk 18 rfl .add ?_
 refine .tk 19 rfl (.ld sc3) ?_
 refine .tk 20 rfl .gtr ?_
 refine .tk 21 rfl .assign ?_
 refine .fin ?_
 refine .next (.ret (?_))
 exact .ret1 (h1:=.tmp (t:=4) rfl) ⟨_,⟨rfl,rfl⟩,Am.auto⟩
def hitR (off:Int) (rows:List SRow) (i:Nat):Bool:=match rows[i]? with
 | some x=>decide (off < x.b.base+x.b.span)
 | none=>true
theorem xw {off:Int} {rows:List SRow} {i:Nat} {x:SRow} (h:rows[i]?=some x):hitR off rows i=decide (off < x.b.base+x.b.span):=by unfold hitR;rw [h]
def SegOrd (rows:List SRow):Prop:=∀ (i j:Nat) (x y:SRow),i<=j->rows[i]?=some x->rows[j]?=some y->x.b.base+x.b.span<=y.b.base+y.b.span
theorem zh {off:Int} {rows:List SRow} (h:SegOrd rows):∀ i j,i<=j->hitR off rows i=true->hitR off rows j=true:=by
 intro i j hij hi
 unfold hitR at *
 cases hj:rows[j]? with
 | none=>rfl
 | some y =>
  have hjl:=(List.getElem?_eq_some_iff.1 hj).1
  have hx:=List.getElem?_eq_getElem (show i < rows.length by omega)
  rw [hx] at hi
  have:=h i j _ _ hij hx hj
  simp only [decide_eq_true_eq] at hi ⊢
  omega
theorem Em {ll cs co s f ab ao c k:Nat} {off base:Int} {path:aa} {rows:List SRow} {os:List (Nat×Obj)} {C:Nat->HP} {Cx:HP} (hok:∀ x∈rows,SRowOk os x) (hord:SegOrd rows) (hl:rows.length<=100000) (hpos:0 < rows.length)
  (hk:k<=rows.length) (hk1:∀ i,i < k->hitR off rows i=false) (hk2:∀ i,k<=i->i < rows.length->hitR off rows i=true)
  (hY:∀ (i:Nat) (x:SRow) (A2:Addr) (c2:Nat),rows[i]?=some x->k<=i->RSpec Tryz.prog ll [.agg (x.b.v (.slice (some A2) x.b.recs.length c2)).toArray,.int .i64 ((x.k:Nat):Int)] [rowR 95 6 (.slice (some A2) x.b.recs.length c2) x.b.recs.length x.b.rv,C i] fun F b M=>(b=true/\M=C (i+1) :: F) ∨ (b=false/\M=Cx :: F)) :
  Spec Tryz.prog 101 (#[.func (.yield ll) #[] #[]]++#[.pointer (some ⟨cs,0,none⟩),.pointer (some ⟨co,0,none⟩)]) [C k,pt cs (.cells #[.pointer (some ⟨s,0,none⟩)] 86 (0,0)),pt co (.cells #[.int .i64 off] 3 (0,0)),pt s (sgO f path base rows (.slice (some ⟨ab,ao,none⟩) rows.length c)),rowR 151 6 (.slice (some ⟨ab,ao,none⟩) rows.length c) rows.length (rows.flatMap SRow.v),frz os] fun F v M=>v=.tuple #[]/\(M=[C rows.length,pt cs (.cells #[.pointer (some ⟨s,0,none⟩)] 86 (0,0)),pt co (.cells #[.int .i64 off] 3 (0,0)),pt s (sgO f path base rows (.slice (some ⟨ab,ao,none⟩) rows.length c)),rowR 151 6 (.slice (some ⟨ab,ao,none⟩) rows.length c) rows.length (rows.flatMap SRow.v),frz os]++F ∨ M=[Cx,pt cs (.cells #[.pointer (some ⟨s,0,none⟩)] 86 (0,0)),pt co (.cells #[.int .i64 off] 3 (0,0)),pt s (sgO f path base rows (.slice (some ⟨ab,ao,none⟩) rows.length c)),rowR 151 6 (.slice (some ⟨ab,ao,none⟩) rows.length c) rows.length (rows.flatMap SRow.v),frz os]++F):=by
 refine Spec.intro Tryz.func101 rfl rfl fun B F=>?_
 simp only [Tryz.ntmps101,List.cons_append,List.nil_append,env0,Nat.reduceAdd]
 refine .fact (ag (el:=151) (size:=6) (k:=rows.length) (v:=(.slice (some ⟨ab,ao,none⟩) rows.length c)) (xs:=rows.flatMap SRow.v)) fun ⟨A0,c0,hv0,hR,hnc,_,_⟩=>?_
 injection hv0 with hA0 _ hc0
 subst hA0
 subst hc0
 refine .seq (.sr ?_)
 refine .ld ?_ sc86
 refine .eqNil ?_ Ej
 refine .z ?_
 refine .condF rfl rfl ?_
 refine .skip (.next (.sr ?_))
 refine .ld ?_ sc86
 refine .nilCheck ?_
 refine .fa ?_ ic
 refine .ld ?_ ts
 refine .lenS ?_ Ek
 refine .makeFuncB ?_
 refine .call (hc:=Tryz.call102) (sp:=vf (gf:=103) (cap:=#[.pointer (some ⟨cs,0,none⟩),.pointer (some ⟨co,0,none⟩)]) (n:=rows.length) (p:=hitR off rows) (L0:=[pt cs (.cells #[.pointer (some ⟨s,0,none⟩)] 86 (0,0)),pt co (.cells #[.int .i64 off] 3 (0,0)),pt s (sgO f path base rows (.slice (some ⟨ab,ao,none⟩) rows.length c)),rowR 151 6 (.slice (some ⟨ab,ao,none⟩) rows.length c) rows.length (rows.flatMap SRow.v)]) Tryz.call103 (fun i hi=>by
  have hx:=List.getElem?_eq_getElem hi
  rw [xw hx]
  exact Sj hx (hok _ (List.getElem_mem hi)) hR) (by omega) (zh hord)) (h:=?_)
 rintro _ _ ⟨k',rfl,⟨hk'n,hk'1,hk'2⟩,rfl⟩
 obtain rfl:k'=k:=by
  rcases Nat.lt_trichotomy k' k with h | h | h
  ·have h1:=hk1 _ h
   rw [hk'2 _ (Nat.le_refl _) (by omega)] at h1
   cases h1
  ·exact h
  ·have h1:=hk'1 _ h
   rw [hk2 _ (Nat.le_refl _) (by omega)] at h1
   cases h1
 simp only [List.cons_append,List.nil_append]
 refine .assign (.x ?_)
 refine .ld ?_ sc86
 refine .nilCheck ?_
 refine .fa ?_ ic
 refine .ld ?_ ts
 refine .move ?_
 refine .slcL ?_ Bd
 have hslc:(if c=((k':Nat):Int).toNat then (some ⟨ab,ao,none⟩:Option Addr) else some ⟨ab,ao+((k':Nat):Int).toNat * 6,none⟩)=some ⟨ab,ao+(if c=k' then 0 else k' * 6),none⟩:=by
  show (if c=k' then (some ⟨ab,ao,none⟩:Option Addr) else some ⟨ab,ao+k' * 6,none⟩)=_
  split<;>rfl
 refine .cast (d:=21) (u:=.slice (some ⟨ab,ao+(if c=k' then 0 else k' * 6),none⟩) (rows.length - k') (c - k')) rfl (congrArg (fun z=>Value.slice z (rows.length - k') (c - k')) hslc) ?_
 refine .lenS ?_ Ek
 refine .move (.z (.block ?_))
 refine .loopA (σ:=Nat) (fun j=>[(0,.func (.yield ll) #[] #[]),(1,.pointer (some ⟨cs,0,none⟩)),(2,.pointer (some ⟨co,0,none⟩)),(21,.slice (some ⟨ab,ao+(if c=k' then 0 else k' * 6),none⟩) (rows.length - k') (c - k')),(22,.int .i64 ((rows.length - k':Nat):Int)),(23,.int .i64 ((j:Nat):Int))]) (fun j=>[C (k'+j),pt cs (.cells #[.pointer (some ⟨s,0,none⟩)] 86 (0,0)),pt co (.cells #[.int .i64 off] 3 (0,0)),pt s (sgO f path base rows (.slice (some ⟨ab,ao,none⟩) rows.length c)),rowR 151 6 (.slice (some ⟨ab,ao,none⟩) rows.length c) rows.length (rows.flatMap SRow.v),frz os]++F) (fun j=>j<=rows.length - k') (fun j=>rows.length - k' - j) 0 (Nat.zero_le _) ?_
 rintro j hj
 refine .sr ?_
 refine .lss ?_
 refine .z (.seq ?_)
 refine .cond rfl (fun hd=>?_) (fun hd=>?_)
 ·have hlt:k'+j < rows.length:=by have h:((j:Nat):Int) < ((rows.length - k':Nat):Int):=of_decide_eq_true hd;omega
  obtain ⟨x,hx⟩:∃ x,rows[k'+j]?=some x:=⟨_,List.getElem?_eq_getElem hlt⟩
  have hxok:=hok x (List.mem_of_getElem? hx)
  obtain ⟨A1,c1,hxs,hRx⟩:=hxok.at'
  have hxl:=hxok.len
  have hd0:(if c=k' then 0 else k' * 6)=k' * 6:=if_neg (by omega)
  have hus:=g8 SRow.v_len _ _ _ hx
  rw [show x.v=SRow.v ⟨x.b,.slice (some A1) x.b.recs.length c1,x.k⟩ by rw [<- hxs]] at hus
  refine .skip (.next (.seq (.block (.sr ?_))))
  refine .idx ?_ Bd
  refine .cast (d:=25) (u:=.pointer (some ⟨ab,ao+(k'+j) * 6,none⟩)) rfl (congrArg (fun z=>Value.pointer (some ⟨ab,z,none⟩)) (by rw [hd0];show ao+k' * 6+j * 6=_;rw [Nat.add_mul];omega)) ?_
  refine .ldAR (i:=(k'+j) * 6) ?_ Ng hR hus (jx SRow.v_len hlt)
  refine .alloc z151 fun b6=>?_
  refine .stV ?_ Ng
  refine .z (.seq ?_)
  refine .drY (k:=6) [pt b6 (.cells (SRow.v ⟨x.b,.slice (some A1) x.b.recs.length c1,x.k⟩).toArray 151 (0,0))] [] mixed .autoJ .auto ?_
  refine .tk 0 rfl .move ?_
  refine .tk 1 rfl (.fa xr) ?_
  refine .tk 2 rfl (Qt.ldP (us:=(x.b.v (.slice (some A1) x.b.recs.length c1)).toArray) ex rfl rfl) ?_
  refine .tk 4 rfl (.fa Pr) ?_
  refine .tk 5 rfl (.ld sc3) ?_
  refine .on 3 rfl fun hnp=>?_
  refine .call (hc:=Tryz.call98) (sp:=Nf (R:=frz os) hRx hxok.pos (by omega)) (h:=?_)
  rintro _ _ ⟨A2,c2,rfl,rfl⟩
  refine .nil (.wa hnp ?_)
  refine .fin ?_
  refine .yield (k:=6) rfl rfl (hY (k'+j) x A2 c2 hx (by omega)) .auto fun b M hM=>?_
  rcases hM with ⟨rfl,rfl⟩ | ⟨rfl,rfl⟩
  ·refine .not ?_
   refine .z ?_
   refine .condF rfl rfl ?_
   refine .skip (.blockNormal (.next (.region ?_)))
   refine .add ?_
   refine .move (.nil ?_)
   exact .back (j+1) (by omega) (by omega)
  ·refine .not ?_
   refine .z ?_
   refine .condT rfl rfl ?_
   refine .ret (.blockRet (.thenRet (.thenRet (.blockRet (?_)))))
   exact .ret0 ⟨_,⟨rfl,.inr rfl⟩,Am.auto⟩
 ·have hge:k'+j=rows.length:=by have h:¬ ((j:Nat):Int) < ((rows.length - k':Nat):Int):=of_decide_eq_false hd;omega
  refine .exit (.thenExit (.thenExit (.blockExit (?_))))
  rw [hge]
  exact .ret0 ⟨_,⟨rfl,.inl rfl⟩,Am.auto⟩
theorem z40 :ax Tryz.prog 40=some (#[.slice none 0 0]):=by kernel_rfl
theorem sc40 :ah Tryz.prog 40=true:=by kernel_rfl
theorem so40 :ar Tryz.prog 40 44 5 56=true:=by kernel_rfl
theorem segBatches0 {ll cs co s f:Nat} {off base:Int} {path:aa} {os:List (Nat×Obj)} {C:HP}:Spec Tryz.prog 101 (#[.func (.yield ll) #[] #[]]++#[.pointer (some ⟨cs,0,none⟩),.pointer (some ⟨co,0,none⟩)]) [C,pt cs (.cells #[.pointer (some ⟨s,0,none⟩)] 86 (0,0)),pt co (.cells #[.int .i64 off] 3 (0,0)),pt s (sgO f path base ([]:List SRow) (.slice none 0 0)),rowR 151 6 (.slice none 0 0) ([]:List SRow).length (([]:List SRow).flatMap SRow.v),frz os] fun F v M=>v=.tuple #[]/\M=[C,pt cs (.cells #[.pointer (some ⟨s,0,none⟩)] 86 (0,0)),pt co (.cells #[.int .i64 off] 3 (0,0)),pt s (sgO f path base ([]:List SRow) (.slice none 0 0)),rowR 151 6 (.slice none 0 0) ([]:List SRow).length (([]:List SRow).flatMap SRow.v),frz os]++F:=by
 refine Spec.intro Tryz.func101 rfl rfl fun B F=>?_
 simp only [Tryz.ntmps101,List.cons_append,List.nil_append,env0,Nat.reduceAdd]
 refine .seq (.sr ?_)
 refine .ld ?_ sc86
 refine .eqNil ?_ Ej
 refine .z ?_
 refine .condF rfl rfl ?_
 refine .skip (.next (.sr ?_))
 refine .ld ?_ sc86
 refine .nilCheck ?_
 refine .fa ?_ ic
 refine .ld ?_ ts
 refine .lenS ?_ Ek
 refine .makeFuncB ?_
 refine .call (hc:=Tryz.call102) (sp:=vf (gf:=103) (cap:=#[.pointer (some ⟨cs,0,none⟩),.pointer (some ⟨co,0,none⟩)]) (n:=0) (p:=fun _=>false) (L0:=[]) Tryz.call103 (fun i hi=>absurd hi (Nat.not_lt_zero i)) (by omega) (fun i j _ h=>h)) (h:=?_)
 rintro _ _ ⟨k',rfl,⟨hk'n,_,_⟩,rfl⟩
 obtain rfl:k'=0:=by omega
 simp only [List.cons_append,List.nil_append]
 refine .assign (.x ?_)
 refine .ld ?_ sc86
 refine .nilCheck ?_
 refine .fa ?_ ic
 refine .ld ?_ ts
 refine .move ?_
 refine .slcN ?_ Bd
 refine .lenS ?_ Ek
 refine .move (.z (.block ?_))
 refine .loopA (σ:=Unit) (fun j=>[(0,.func (.yield ll) #[] #[]),(1,.pointer (some ⟨cs,0,none⟩)),(2,.pointer (some ⟨co,0,none⟩)),(21,.slice none 0 0),(22,.int .i64 0),(23,.int .i64 0)]) (fun j=>[C,pt cs (.cells #[.pointer (some ⟨s,0,none⟩)] 86 (0,0)),pt co (.cells #[.int .i64 off] 3 (0,0)),pt s (sgO f path base ([]:List SRow) (.slice none 0 0)),rowR 151 6 (.slice none 0 0) ([]:List SRow).length (([]:List SRow).flatMap SRow.v),frz os]++F) (fun _=>True) (fun _=>0) () trivial ?_
 rintro j hj
 refine .sr ?_
 refine .lss ?_
 refine .z (.seq ?_)
 refine .condF rfl (cB9 (rfl)) ?_
 refine .exit (.thenExit (.thenExit (.blockExit (?_))))
 exact .ret0 ⟨_,⟨rfl,rfl⟩,Am.auto⟩
theorem tv {ll cs co s f k:Nat} {off base:Int} {path:aa} {rows:List SRow} {u:Value} {os:List (Nat×Obj)} {C:Nat->HP} {Cx:HP} (hok:∀ x∈rows,SRowOk os x) (hord:SegOrd rows) (hl:rows.length<=100000) (hu:rows=[]->u=.slice none 0 0)
  (hk:k<=rows.length) (hk1:∀ i,i < k->hitR off rows i=false) (hk2:∀ i,k<=i->i < rows.length->hitR off rows i=true)
  (hY:∀ (i:Nat) (x:SRow) (A2:Addr) (c2:Nat),rows[i]?=some x->k<=i->RSpec Tryz.prog ll [.agg (x.b.v (.slice (some A2) x.b.recs.length c2)).toArray,.int .i64 ((x.k:Nat):Int)] [rowR 95 6 (.slice (some A2) x.b.recs.length c2) x.b.recs.length x.b.rv,C i] fun F b M=>(b=true/\M=C (i+1) :: F) ∨ (b=false/\M=Cx :: F)) :
  Spec Tryz.prog 101 (#[.func (.yield ll) #[] #[]]++#[.pointer (some ⟨cs,0,none⟩),.pointer (some ⟨co,0,none⟩)]) [C k,pt cs (.cells #[.pointer (some ⟨s,0,none⟩)] 86 (0,0)),pt co (.cells #[.int .i64 off] 3 (0,0)),pt s (sgO f path base rows u),rowR 151 6 u rows.length (rows.flatMap SRow.v),frz os] fun F v M=>v=.tuple #[]/\(M=[C rows.length,pt cs (.cells #[.pointer (some ⟨s,0,none⟩)] 86 (0,0)),pt co (.cells #[.int .i64 off] 3 (0,0)),pt s (sgO f path base rows u),rowR 151 6 u rows.length (rows.flatMap SRow.v),frz os]++F ∨ M=[Cx,pt cs (.cells #[.pointer (some ⟨s,0,none⟩)] 86 (0,0)),pt co (.cells #[.int .i64 off] 3 (0,0)),pt s (sgO f path base rows u),rowR 151 6 u rows.length (rows.flatMap SRow.v),frz os]++F):=by
 by_cases h0:rows=[]
 ·obtain rfl:=hu h0
  subst h0
  obtain rfl:k=0:=by simpa using hk
  exact segBatches0.post (fun F v M ⟨h1,h2⟩=>⟨M,⟨h1,.inl h2⟩,.refl⟩)
 ·have hpos:0 < rows.length:=List.length_pos_iff.2 h0
  refine Spec.ofFact (ag (el:=151) (size:=6) (k:=rows.length) (v:=u) (xs:=rows.flatMap SRow.v)) fun ⟨A,c,hu2,hR,_,_,_⟩=>?_
  obtain ⟨ab,ao,rfl⟩:∃ ab ao,A=some ⟨ab,ao,none⟩:=by
   cases A with
   | none =>
    have h0:rows.flatMap SRow.v=[]:=hR
    have h1:=a7 SRow.v_len rows
    rw [h0] at h1
    simp at h1
    omega
   | some a =>
    obtain ⟨x,y,z⟩:=a
    have:z=none:=hR.1
    subst this
    exact ⟨x,y,rfl⟩
  subst hu2
  exact Em hok hord hl hpos hk hk1 hk2 hY
structure BRow where
 b:Bt
 s:Value
def BRow.v (x:BRow):List Value:=x.b.v x.s
theorem BRow.v_len (x:BRow):x.v.length=5:=rfl
def BRowOk (os:List (Nat×Obj)) (x:BRow):Prop:=0 < x.b.recs.length/\x.b.recs.length<=10000/\∃ A c,x.s=.slice (some A) x.b.recs.length c/\Reads (frz os) (some A) x.b.rv
theorem BRowOk.mono {os os2:List (Nat×Obj)} {x:BRow} (h:BRowOk os x) (hs:∀ y∈os,y∈os2):BRowOk os2 x:=by
 obtain ⟨h1,h2,A,c,h3,h4,h5⟩:=h
 refine ⟨h1,h2,A,c,h3,h4,fun hh hf=>h5 hh ?_⟩
 unfold frz at hf ⊢
 exact fun p hp=>hf p (hs p hp)
theorem nj {b:Bt} {A:Option Addr} {m c:Nat}:∀ u∈b.v (.slice A m c),Value.single u=true:=by
 intro u hu
 unfold Bt.v at hu
 simp only [List.mem_cons,List.not_mem_nil,or_false] at hu
 rcases hu with rfl | rfl | rfl | rfl | rfl<;>rfl
theorem Ij (a s p q:Int) (A:Option Addr) (m c:Nat):az Tryz.prog 40 1 [(0,.agg #[.int .i64 a,.int .i64 s,.int .i64 p,.int .i64 q,.slice A m c])] 44 #[.int .i64 a,.int .i64 s,.int .i64 p,.int .i64 q,.slice A m c]:=fun w=>by kernel_rfl
theorem Ps {os:List (Nat×Obj)} {rows:List SRow} {off:Int} (h:∀ x∈rows,SRowOk os x) (ho:off < 0):∀ i,0<=i->i < rows.length->hitR off rows i=true:=by
 intro i _ hi
 rw [xw (List.getElem?_eq_getElem hi)]
 have:=(h _ (List.getElem_mem hi)).rng
 exact decide_eq_true (by omega)
theorem Ik {α:Type} {l:List α} {i:Nat} {x:α} (h:l[i]?=some x):l.take (i+1)=l.take i++[x]:=by
 rw [List.take_add_one,h];rfl
theorem tx {s:Nat} {off:Int}:Spec Tryz.prog 51 #[.pointer (some ⟨s,0,none⟩),.int .i64 off] [] fun F v M=>∃ cs co,v=.func (.func 101) #[] #[.pointer (some ⟨cs,0,none⟩),.pointer (some ⟨co,0,none⟩)]/\M=pt cs (.cells #[.pointer (some ⟨s,0,none⟩)] 86 (0,0)) :: pt co (.cells #[.int .i64 off] 3 (0,0)) :: F:=by
 refine Spec.intro Tryz.func51 rfl rfl fun B F=>?_
 simp only [Tryz.ntmps51,List.cons_append,List.nil_append,env0,Nat.reduceAdd]
 refine .sr ?_
 refine .box fun b2=>?_
 refine .box fun b3=>?_
 refine .assign (.x ?_)
 refine .makeFuncB ?_
 refine .assign (.z (.ret (?_)))
 exact .ret1 (h1:=.tmp (t:=4) rfl) ⟨_,⟨_,_,rfl,rfl⟩,Am.auto⟩
theorem Sk {s f:Nat} {path:aa} {base:Int} {rows:List SRow} {u:Value} {os:List (Nat×Obj)} (hok:∀ x∈rows,SRowOk os x) (hord:SegOrd rows) (hl:rows.length<=100000) (hu:rows=[]->u=.slice none 0 0):Spec Tryz.prog 122 #[.pointer (some ⟨s,0,none⟩)] [pt s (sgO f path base rows u),rowR 151 6 u rows.length (rows.flatMap SRow.v),frz os] fun F v M=>∃ (l:List BRow) (os2:List (Nat×Obj)),(l.map BRow.b=rows.map SRow.b/\∀ y∈l,BRowOk os2 y)/\M=rowR 44 5 v l.length (l.flatMap BRow.v) :: frz os2 :: pt s (sgO f path base rows u) :: rowR 151 6 u rows.length (rows.flatMap SRow.v) :: frz os :: F:=by
 refine Spec.introM Tryz.func122 rfl rfl fun B F=>?_
 simp only [Tryz.ntmps122,List.cons_append,List.nil_append,env0,Nat.reduceAdd]
 refine .sr ?_
 refine .alloc z40 fun b2=>?_
 refine .z (.seq (.sr (.move ?_)))
 refine .call (hc:=Tryz.call51) (sp:=tx) (h:=?_)
 rintro _ _ ⟨cs,co,rfl,rfl⟩
 refine .z (.block ?_)
 refine .emp (A:=rowR 44 5 (.slice none 0 0) ([]:List BRow).length (([]:List BRow).flatMap BRow.v)) (rowR.nil _) ?_
 refine .emp (A:=frz []) rq ?_
 refine .rangeK rfl Tryz.call101 fun fn D ll tmps mk hmk hts hget=>?_
 obtain ⟨C,hC⟩:∃ C:Nat->HP,C=fun i=>exH (fun x:Value×List BRow×List (Nat×Obj)=>x.2.1.map BRow.b=(rows.take i).map SRow.b/\∀ y∈x.2.1,BRowOk x.2.2 y) (fun x=>[pt ll (.loop (mk .ready none)),pt b2 (.cells #[x.1] 40 (0,0)),rowR 44 5 x.1 x.2.1.length (x.2.1.flatMap BRow.v),frz x.2.2]):=⟨_,rfl⟩
 have hopen:∀ i,Opens (C i) (fun x:Value×List BRow×List (Nat×Obj)=>x.2.1.map BRow.b=(rows.take i).map SRow.b/\∀ y∈x.2.1,BRowOk x.2.2 y) (fun x=>[pt ll (.loop (mk .ready none)),pt b2 (.cells #[x.1] 40 (0,0)),rowR 44 5 x.1 x.2.1.length (x.2.1.flatMap BRow.v),frz x.2.2]):=fun i=>by rw [hC];exact exH.opens
 clear hC
 have hY:∀ (i:Nat) (x:SRow) (A2:Addr) (c2:Nat),rows[i]?=some x->0<=i->RSpec Tryz.prog ll [.agg (x.b.v (.slice (some A2) x.b.recs.length c2)).toArray,.int .i64 ((x.k:Nat):Int)] [rowR 95 6 (.slice (some A2) x.b.recs.length c2) x.b.recs.length x.b.rv,C i] fun F b M=>(b=true/\M=C (i+1) :: F) ∨ (b=false/\M=exH (fun _:Unit=>False) (fun _=>[]) :: F):=by
  intro i x A2 c2 hx _
  have hxok:=hok x (List.mem_of_getElem? hx)
  have hil:i < rows.length:=(List.getElem?_eq_some_iff.1 hx).1
  refine RSpec.pre' (pre:=C i :: [rowR 95 6 (.slice (some A2) x.b.recs.length c2) x.b.recs.length x.b.rv]) (RSpec.opens (hopen i) fun y hy=>?_) (fun B w F hs=>hs.take (.cons (.there .here) (.cons .here .nil)))
  obtain ⟨v,l,os2⟩:=y
  obtain ⟨hy1,hy2⟩:=hy
  simp only at hy1 hy2
  have hll:l.length<=100000:=by
   have h1:=congrArg List.length hy1
   simp only [List.length_map,List.length_take] at h1
   omega
  simp only [List.cons_append,List.nil_append]
  refine RSpec.post' (R:=fun F b M=>b=true/\∃ (v:Value) (l:List BRow) (os2:List (Nat×Obj)),(l.map BRow.b=(rows.take (i+1)).map SRow.b/\∀ y∈l,BRowOk os2 y)/\M=pt ll (.loop (mk .ready none)) :: pt b2 (.cells #[v] 40 (0,0)) :: rowR 44 5 v l.length (l.flatMap BRow.v) :: frz os2 :: F) (RSpec.introK (ps:=[6,7]) (k:=13) hmk hts hget rfl rfl fun B F=>?_) ?_
  ·simp only [envs,List.cons_append,List.nil_append]
   refine WJ.region .auto ?_
   refine .alloc z44 fun b3=>?_
   refine .stV ?_ ex
   refine .nil ?_
   refine .beginK hmk ?_ (by repeat (first | exact .here | apply Rem.there | apply Repl.there | apply Mem.there))
   refine WJ.block ?_
   refine WJ.region .auto ?_
   refine .ld ?_ sc40
   refine .ldA ?_ ex
   refine .buildS (fun b10=>?_) (Ij _ _ _ _ _ _ _)
   refine .toE (A:=rowR 95 6 (.slice (some A2) x.b.recs.length c2) x.b.recs.length x.b.rv) (jl hxok.pos) ?_
   rintro ⟨g2,q2,cur⟩ ⟨hv2,htk⟩
   injection hv2 with hA2 _ hc2
   injection hA2 with hA2
   simp only at hA2 hc2 htk
   subst hA2
   subst hc2
   refine .frzAdd ?_
   have hnew:BRowOk ((g2,.cells cur 95 (0,0)) :: os2) (⟨x.b,.slice (some ⟨g2,0,none⟩) x.b.recs.length c2⟩:BRow):=⟨hxok.pos,hxok.len,_,c2,rfl,by
    have:=(Reads.frz (os:=(g2,.cells cur 95 (0,0)) :: os2) (b:=g2) (cs:=cur) (List.mem_cons_self ..)).take x.b.rv.length
    rwa [htk] at this⟩
   refine .append (v:=v) (m:=1) (k:=l.length) (xs:=l.flatMap BRow.v) (news:=BRow.v (⟨x.b,.slice (some ⟨g2,0,none⟩) x.b.recs.length c2⟩:BRow)) so40 (by decide) (by repeat (first | exact .here | apply Rem.there | apply Repl.there | apply Mem.there)) (Reads.pt (cs:=(BRow.v (⟨x.b,.slice (some ⟨g2,0,none⟩) x.b.recs.length c2⟩:BRow)).toArray)) (by repeat (first | exact .here | apply Rem.there | apply Repl.there | apply Mem.there)) rfl nj (by unfold maxLen;omega) (by omega) ⟨_,z44,rfl⟩ (fun v2 hv2=>?_)
   rw [show l.flatMap BRow.v++BRow.v (⟨x.b,.slice (some ⟨g2,0,none⟩) x.b.recs.length c2⟩:BRow)=(l++[(⟨x.b,.slice (some ⟨g2,0,none⟩) x.b.recs.length c2⟩:BRow)]).flatMap BRow.v by rw [List.flatMap_append,List.flatMap_singleton],show l.length+1=(l++[(⟨x.b,.slice (some ⟨g2,0,none⟩) x.b.recs.length c2⟩:BRow)]).length by simp]
   refine .fact (ag (el:=44) (size:=5) (k:=(l++[(⟨x.b,.slice (some ⟨g2,0,none⟩) x.b.recs.length c2⟩:BRow)]).length) (v:=v2) (xs:=(l++[(⟨x.b,.slice (some ⟨g2,0,none⟩) x.b.recs.length c2⟩:BRow)]).flatMap BRow.v)) fun ⟨A9,c9,hv9,_⟩=>?_
   subst hv9
   refine .st ?_ sc40
   refine .nil (.blockNormal ?_)
   refine .rndK hmk ?_ (by repeat (first | exact .here | apply Rem.there | apply Repl.there | apply Mem.there))
   exact ⟨_,⟨rfl,_,l++[(⟨x.b,.slice (some ⟨g2,0,none⟩) x.b.recs.length c2⟩:BRow)],(g2,.cells cur 95 (0,0)) :: os2,⟨by rw [List.map_append,hy1,Ik hx,List.map_append];rfl,fun y hy=>(List.mem_append.1 hy).elim (fun h=>(hy2 y h).mono fun z hz=>List.mem_cons_of_mem _ hz) (fun h=>by rw [List.mem_singleton.1 h];exact hnew)⟩,rfl⟩,Am.auto⟩
  ·rintro F b M B w ⟨rfl,v,l,os2,h1,rfl⟩ hs
   exact ⟨_,.inl ⟨rfl,rfl⟩,Sat.shuts (hopen (i+1)) (x:=(v,l,os2)) h1 hs⟩
 refine ⟨pt ll (.loop (mk .ready none)) :: pt b2 (.cells #[.slice none 0 0] 40 (0,0)) :: rowR 44 5 (.slice none 0 0) ([]:List BRow).length (([]:List BRow).flatMap BRow.v) :: frz [] :: pt cs (.cells #[.pointer (some ⟨s,0,none⟩)] 86 (0,0)) :: pt co (.cells #[.int .i64 (-1)] 3 (0,0)) :: pt s (sgO f path base rows u) :: rowR 151 6 u rows.length (rows.flatMap SRow.v) :: frz os :: [],_,fun G v M=>v=.tuple #[]/\∃ (v2:Value) (l:List BRow) (os2:List (Nat×Obj)),(l.map BRow.b=rows.map SRow.b/\∀ y∈l,BRowOk os2 y)/\M=pt ll (.loop (mk .ready none)) :: pt b2 (.cells #[v2] 40 (0,0)) :: rowR 44 5 v2 l.length (l.flatMap BRow.v) :: frz os2 :: pt cs (.cells #[.pointer (some ⟨s,0,none⟩)] 86 (0,0)) :: pt co (.cells #[.int .i64 (-1)] 3 (0,0)) :: pt s (sgO f path base rows u) :: rowR 151 6 u rows.length (rows.flatMap SRow.v) :: frz os :: G,Spec.post' (Spec.pre' (tv (k:=0) hok hord hl hu (Nat.zero_le _) (fun i h=>absurd h (Nat.not_lt_zero i)) (Ps hok (by decide)) hY) (fun B w G hs=>Sat.shuts (hopen 0) (x:=(.slice none 0 0,[],[])) ⟨by simp,fun y hy=>absurd hy (List.not_mem_nil)⟩ hs)) ?_,by repeat (first | exact .nil | (apply Tk.cons;focus ((repeat (first | exact .here | apply Rem.there));done))),?_⟩
 ·rintro G v M B w ⟨rfl,rfl | rfl⟩ hs
  ·obtain ⟨x,hx,hs1⟩:=Sat.opens hs (hopen _)
   rw [List.take_length] at hx
   exact ⟨_,⟨rfl,x.1,x.2.1,x.2.2,hx,rfl⟩,hs1⟩
  ·obtain ⟨_,hx,_⟩:=Sat.opens hs exH.opens
   exact hx.elim
 rintro v M ⟨rfl,v2,l,os2,hfin,rfl⟩
 refine ⟨.ready,none,_,.here,by decide,?_⟩
 show WQ _ _ _ .normal _ _
 refine .blockNormal (.next (.sr ?_))
 refine .fact (ag (el:=44) (size:=5) (k:=l.length) (v:=v2) (xs:=l.flatMap BRow.v)) fun ⟨A9,c9,hv9,_⟩=>?_
 subst hv9
 refine .ld ?_ sc40
 refine .st ?_ sc40
 refine .z (.ret (?_))
 refine .retM1 (D:=D) (r:=.cell 2 40) ?_ (by repeat (first | exact .here | apply Rem.there | apply Repl.there | apply Mem.there)) (.cell rfl (by kernel_rfl) (by repeat (first | exact .here | apply Rem.there | apply Repl.there | apply Mem.there)) rfl)
 exact ⟨_,⟨l,os2,hfin,rfl⟩,Am.auto⟩
structure SegI (os:List (Nat×Obj)) (bs:List Bt) (rows:List SRow) (u:Value):Prop where
 b:rows.map SRow.b=bs
 ok:∀ x∈rows,SRowOk os x
 k:∀ x∈rows,x.k=(batB x.b).length/\x.k<=6000
 ord:SegOrd rows
 nil:rows=[]->u=.slice none 0 0
abbrev X3 :=List SRow×Value×List (Nat×Obj)
abbrev Il (s f:Nat) (path:aa) (base:Int) (x:X3):List HP:=[pt s (sgO f path base x.1 x.2.1),rowR 151 6 x.2.1 x.1.length (x.1.flatMap SRow.v),frz x.2.2]
def SGP (s f:Nat) (path:aa) (base:Int) (bs:List Bt):HP:=exH (fun x:X3=>SegI x.2.2 bs x.1 x.2.1) (Il s f path base)
theorem SGP.opens (s f:Nat) (path:aa) (base:Int) (bs:List Bt):Opens (SGP s f path base bs) (fun x:X3=>SegI x.2.2 bs x.1 x.2.1) (Il s f path base):=exH.opens
abbrev SG (s f:Nat) (base:Int) (bs:List Bt):HP:=SGP s f [47,115] base bs
def i3 (base:Int) (bs:List Bt):Int:=match bs.getLast? with
 | some b=>b.base+b.span
 | none=>base
theorem SegI.next {os:List (Nat×Obj)} {bs:List Bt} {rows:List SRow} {u:Value} (h:SegI os bs rows u) (base:Int):xu base rows=i3 base bs:=by
 rw [<- h.b]
 unfold xu i3
 rw [List.getLast?_map]
 cases rows.getLast?<;>rfl
theorem SegI.siz {os:List (Nat×Obj)} {bs:List Bt} {rows:List SRow} {u:Value} (h:SegI os bs rows u):sizR rows=(bs.flatMap batB).length:=by
 rw [<- h.b]
 have hk:=h.k
 clear h
 induction rows with
 | nil=>rfl
 | cons x l ih =>
  rw [List.map_cons,List.flatMap_cons,List.length_append,<-(hk x (List.mem_cons_self ..)).1,<-ih (fun y hy=>hk y (List.mem_cons_of_mem _ hy))]
  rfl
theorem SegI.len {os:List (Nat×Obj)} {bs:List Bt} {rows:List SRow} {u:Value} (h:SegI os bs rows u):rows.length=bs.length:=by rw [<- h.b,List.length_map]
theorem En {base:Int} {rows:List SRow} {j:Nat} {y:SRow} (hy:rows[j]?=some y) (hj:j+1=rows.length):xu base rows=y.b.base+y.b.span:=by
 unfold xu
 rw [List.getLast?_eq_getElem?,show rows.length - 1=j by omega,hy]
theorem SegI.add {os os2:List (Nat×Obj)} {bs:List Bt} {rows:List SRow} {u u2:Value} {b:Bt} {s2:Value} {base:Int} {k:Nat} (hkb:k=(batB b).length) (h:SegI os bs rows u) (hE:batE b=0) (hx:xu base rows<=b.base)
  (hn:SRowOk os2 ⟨b,s2,k⟩) (hs:∀ x∈os,x∈os2):SegI os2 (bs++[b]) (rows++[⟨b,s2,k⟩]) u2:=by
 refine ⟨by rw [List.map_append,h.b];rfl,fun x hxm=>?_,fun x hxm=>?_,fun i j x y hij hxi hyj=>?_,fun h0=>by simp at h0⟩
 ·rcases List.mem_append.1 hxm with hxm | hxm
  ·exact (h.ok x hxm).mono hs
  ·rw [List.mem_singleton.1 hxm];exact hn
 ·rcases List.mem_append.1 hxm with hxm | hxm
  ·exact h.k x hxm
  ·rw [List.mem_singleton.1 hxm];show k=(batB b).length/\k<=6000;exact ⟨hkb,by rw [hkb];exact (qw hE).1⟩
 ·by_cases hj:j < rows.length
  ·rw [List.getElem?_append_left hj] at hyj
   rw [List.getElem?_append_left (by omega)] at hxi
   exact h.ord i j x y hij hxi hyj
  ·have hjl:j=rows.length:=by
    have:=(List.getElem?_eq_some_iff.1 hyj).1
    rw [List.length_append,List.length_singleton] at this
    omega
   subst hjl
   have hy:y=⟨b,s2,k⟩:=by simpa using hyj.symm
   by_cases hi:i < rows.length
   ·rw [List.getElem?_append_left hi] at hxi
    have hz:rows[rows.length - 1]?=some rows[rows.length - 1]:=List.getElem?_eq_getElem _
    have h1:=h.ord i (rows.length - 1) _ _ (by omega) hxi hz
    rw [En hz (by omega)] at hx
    have h2:=(xv hE).2.1
    rw [hy]
    show _<=b.base+b.span
    omega
   ·have hii:i=rows.length:=by omega
    subst hii
    have hx2:x=y:=by rw [hyj] at hxi;injection hxi with hxi;exact hxi.symm
    rw [hx2];omega
theorem Im {f:Nat} {base:Int} {path:aa} {H H':HP} (hb:0<=base/\base<=1125899906842624) (hC:Spec Tryz.prog 100 #[.pointer (some ⟨f,0,none⟩),sv path] [H] fun F v M=>v=okV/\M=H' :: F):Spec Tryz.prog 46 #[.pointer (some ⟨f,0,none⟩),sv path,.int .i64 base] [H]
  fun F v M=>∃ s,v=.tuple #[.pointer (some ⟨s,0,none⟩),.int .i64 0]/\M=SGP s f path base [] :: H' :: F :=
 Spec.post' (Pq hb hC) fun F v M B w ⟨s,h1,h2⟩ hs=>by
  subst h2
  have h3:Sat B w (frz [] :: pt s (sgO f path base [] (.slice none 0 0)) :: rowR 151 6 (.slice none 0 0) ([]:List SRow).length (([]:List SRow).flatMap SRow.v) :: H' :: F):=hs.pure rq
  exact ⟨_,⟨s,h1,rfl⟩,Sat.shuts (SGP.opens s f path base []) (x:=([],.slice none 0 0,[])) ⟨rfl,fun x h=>absurd h List.not_mem_nil,fun x h=>absurd h List.not_mem_nil,fun i j x y _ h=>by simp at h,fun _=>rfl⟩ (h3.take (.cons (.there .here) (.cons (.there .here) (.cons .here .nil))))⟩
theorem tz {s f c:Nat} {base:Int} {path:aa} {H H':HP} {bs:List Bt} {b:Bt} {A:Addr} {R:HP} (hR:Reads R (some A) b.rv) (hE:batE b=0) (hl:b.recs.length<=10000) (hx:i3 base bs<=b.base) (hrows:bs.length<=99999) (hsz:(bs.flatMap batB).length<=1000000000)
  (hA:∀ (R:HP) (A:Option Addr) (cc:Nat),Reads R A (bvs (batB b))->(batB b).length<=cc->cc<=maxLen->Spec Tryz.prog 96 #[.pointer (some ⟨f,0,none⟩),sv path,.slice A (batB b).length cc] [H,R] fun F v M=>v=okV/\M=H' :: R :: F) :
  Spec Tryz.prog 45 #[.pointer (some ⟨s,0,none⟩),.agg (b.v (.slice (some A) b.recs.length c)).toArray] [SGP s f path base bs,H,R] fun F v M=>v=.int .i64 0/\M=SGP s f path base (bs++[b]) :: H' :: R :: F:=by
 refine Spec.opens (SGP.opens s f path base bs) fun x hi=>?_
 refine Spec.post' (Ii hi.ok hR hE hl (by rw [hi.next];exact hx) (by rw [hi.len];exact hrows) (by rw [hi.siz];exact hsz) hA) ?_
 rintro F v M B w ⟨rfl,u2,os2,s2,⟨hn,hsub⟩,rfl⟩ hs
 refine ⟨_,⟨rfl,rfl⟩,Sat.shuts (SGP.opens s f path base (bs++[b])) (x:=(_,u2,os2)) (hi.add rfl hE (by rw [hi.next];exact hx) hn hsub) hs⟩
theorem SG.const {f:FuncId} {args:Array Value} {path:aa} {s g:Nat} {base:Int} {bs:List Bt} {val:Value} (h:∀ x:X3,SegI x.2.2 bs x.1 x.2.1->Spec Tryz.prog f args [pt s (sgO g path base x.1 x.2.1),rowR 151 6 x.2.1 x.1.length (x.1.flatMap SRow.v)] fun F v M=>v=val/\M=pt s (sgO g path base x.1 x.2.1) :: rowR 151 6 x.2.1 x.1.length (x.1.flatMap SRow.v) :: F) :
  Spec Tryz.prog f args [SGP s g path base bs] fun F v M=>v=val/\M=SGP s g path base bs :: F:=by
 refine Spec.opens (SGP.opens s g path base bs) fun x hi=>?_
 refine Spec.post' (Spec.pre' (Spec.frame (frz x.2.2) (h x hi)) (pre':=Il s g path base x++[]) fun B w F hs=>hs.take (.cons (.there (.there .here)) (.cons .here (.cons .here .nil)))) ?_
 rintro F v M B w ⟨rfl,rfl⟩ hs
 exact ⟨_,⟨rfl,rfl⟩,Sat.shuts (SGP.opens s g path base bs) (x:=x) hi hs⟩
theorem Sl {s f:Nat} {path:aa} {base:Int} {bs:List Bt} (hl:bs.length<=100000):Spec Tryz.prog 49 #[.pointer (some ⟨s,0,none⟩)] [SGP s f path base bs] fun F v M=>v=.int .i64 (i3 base bs)/\M=SGP s f path base bs :: F :=
 SG.const fun x hi=>by rw [<- hi.next];exact If hi.ok (by rw [hi.len];exact hl)
theorem Sm {s f:Nat} {path:aa} {base:Int} {bs:List Bt}:Spec Tryz.prog 44 #[.pointer (some ⟨s,0,none⟩)] [SGP s f path base bs] fun F v M=>v=.int .i64 (((bs.flatMap batB).length:Nat):Int)/\M=SGP s f path base bs :: F :=
 SG.const fun x hi=>by rw [<- hi.siz];exact Po
theorem Sn {s f:Nat} {path:aa} {base:Int} {bs:List Bt}:Spec Tryz.prog 50 #[.pointer (some ⟨s,0,none⟩)] [SGP s f path base bs] fun F v M=>v=.int .i64 base/\M=SGP s f path base bs :: F :=
 SG.const fun x hi=>Ie
def BL (v:Value) (bs:List Bt):HP:=exH (fun x:List BRow×List (Nat×Obj)=>x.1.map BRow.b=bs/\∀ y∈x.1,BRowOk x.2 y) (fun x=>[rowR 44 5 v x.1.length (x.1.flatMap BRow.v),frz x.2])
theorem BL.opens (v:Value) (bs:List Bt):Opens (BL v bs) (fun x:List BRow×List (Nat×Obj)=>x.1.map BRow.b=bs/\∀ y∈x.1,BRowOk x.2 y) (fun x=>[rowR 44 5 v x.1.length (x.1.flatMap BRow.v),frz x.2]):=exH.opens
theorem sgAll {s f:Nat} {path:aa} {base:Int} {bs:List Bt} (hl:bs.length<=100000):Spec Tryz.prog 122 #[.pointer (some ⟨s,0,none⟩)] [SGP s f path base bs] fun F v M=>M=BL v bs :: SGP s f path base bs :: F:=by
 refine Spec.opens (SGP.opens s f path base bs) fun x hi=>?_
 refine Spec.post' (Spec.pre' (Sk hi.ok hi.ord (by rw [hi.len];exact hl) hi.nil) (pre':=Il s f path base x++[]) fun B w F hs=>hs) ?_
 rintro F v M B w ⟨l,os2,hfin,rfl⟩ hs
 refine ⟨_,rfl,Sat.shuts (BL.opens v bs) (x:=(l,os2)) (by rw [hi.b] at hfin;exact hfin) (Sat.take (.cons (.there .here) (.cons (.there .here) .nil)) (Sat.shuts (SGP.opens s f path base bs) (x:=x) hi (hs.take (.cons (.there (.there .here)) (.cons (.there (.there .here)) (.cons (.there (.there .here)) .nil))))))⟩
def gotB (mx:Int):Int->Bool->List Bt->List Bt
 | _,_,[]=>[]
 | n,h,x :: l=>if h=true/\mx < n+(((batB x).length:Nat):Int) then [] else x :: gotB mx (n+(((batB x).length:Nat):Int)) true l
theorem vg {R:HP} {A:Option Addr} {l:List BRow} (hR:Reads R A (l.flatMap BRow.v)) (h:0 < l.length):∃ ab ao,A=some ⟨ab,ao,none⟩:=by
 cases A with
 | none =>
  have h0:l.flatMap BRow.v=[]:=hR
  have h1:=a7 BRow.v_len l
  rw [h0] at h1
  simp at h1
  omega
 | some a =>
  obtain ⟨x,y,z⟩:=a
  have:z=none:=hR.1
  subst this
  exact ⟨x,y,rfl⟩
theorem Pt {l:List BRow} {b:Bt} (h:l.map BRow.b=[b]):∃ r,l=[r]/\r.b=b:=by
 match l,h with
 | [r],h=>exact ⟨r,rfl,by simpa using h⟩
theorem So :nq Tryz.prog 30=true:=by kernel_rfl
theorem vh :ad Tryz.prog 84 0 0=true:=by kernel_rfl
theorem eu :ad Tryz.prog 84 3 7=true:=by kernel_rfl
theorem sc82 :ah Tryz.prog 82=true:=by kernel_rfl
theorem sl82 :Tryz.prog.underlying 82=some (.slice 86):=by kernel_rfl
theorem so82 :ar Tryz.prog 82 86 1 8=true:=by kernel_rfl
theorem ly (dn nm:aa):(47 :: dn)++[47]++nm=d3 dn nm:=by unfold d3;simp
structure Seg where
 s:Nat
 base:Nat
 bs:List Bt
def Seg.a (x:Seg):SegA:=(x.base,x.bs)
def Seg.ptr (x:Seg):Value:=.pointer (some ⟨x.s,0,none⟩)
abbrev SGA (f:Nat) (dn:aa) (x:Seg):HP:=SGP x.s f (d3 dn (aw x.base)) ((x.base:Nat):Int) x.bs
def segsH (f:Nat) (dn:aa) (l:List Seg):HP:=bun (l.map (SGA f dn))
theorem vi {α:Type _} {x:α}:∀ (a b:List α),Rem (a++x :: b) x (a++b)
 | [],_=>.here
 | _ :: a,b=>.there (vi a b)
theorem segsH.out {f:Nat} {dn:aa} {pre post:List Seg} {x:Seg} {B:Base} {w:World} {M:List HP} (h:Sat B w (segsH f dn (pre++x :: post) :: M)):Sat B w (SGA f dn x :: segsH f dn (pre++post) :: M):=by
 obtain ⟨_,_,h1⟩:=Sat.opens h (bun.opens _)
 rw [List.map_append,List.map_cons,List.append_assoc,List.cons_append] at h1
 have h2:=Sat.front (vi _ _) h1
 rw [<- List.append_assoc,<-List.map_append] at h2
 have h3:=Sat.back (vi (x:=SGA f dn x) ((pre++post).map (SGA f dn)) M) h2
 exact Sat.front (.there .here) (Sat.shuts (bun.opens ((pre++post).map (SGA f dn))) (x:=()) trivial h3)
theorem segsH.inn {f:Nat} {dn:aa} {pre post:List Seg} {x:Seg} {B:Base} {w:World} {M:List HP} (h:Sat B w (SGA f dn x :: segsH f dn (pre++post) :: M)):Sat B w (segsH f dn (pre++x :: post) :: M):=by
 obtain ⟨_,_,h1⟩:=Sat.opens (Sat.front (.there .here) h) (bun.opens _)
 have h2:=Sat.front (vi ((pre++post).map (SGA f dn)) M) h1
 rw [List.map_append,List.append_assoc] at h2
 have h3:=Sat.back (vi (x:=SGA f dn x) (pre.map (SGA f dn)) (post.map (SGA f dn)++M)) h2
 refine Sat.shuts (bun.opens ((pre++x :: post).map (SGA f dn))) (x:=()) trivial ?_
 rw [List.map_append,List.map_cons,List.append_assoc,List.cons_append]
 exact h3
section
variable {P:Program} {B:Base} {n:Fr} {Q:Exit->Act->World->Prop} {e:Env} {L M:List HP} {ops:Array Oper} {l:List Oper} {f:Nat} {dn:aa} {x:Seg}
theorem WC.segOut {c:Code} (pre post:List Seg) (h:WC P B n c Q e (SGA f dn x :: segsH f dn (pre++post) :: M)) (r:Rem L (segsH f dn (pre++x :: post)) M:=by repeat (first | exact .here | apply Rem.there)):WC P B n c Q e L :=
 fun a w ha hs=>h a w ha (segsH.out (Sat.front r hs))
theorem WL.segOut (pre post:List Seg) (h:WL P B n ops l Q e (SGA f dn x :: segsH f dn (pre++post) :: M)) (r:Rem L (segsH f dn (pre++x :: post)) M:=by repeat (first | exact .here | apply Rem.there)):WL P B n ops l Q e L :=
 fun a w ha hs=>h a w ha (segsH.out (Sat.front r hs))
theorem WC.segIn {c:Code} (pre post:List Seg) (x:Seg) (h:WC P B n c Q e (segsH f dn (pre++x :: post) :: M)) (t:Tk L [SGA f dn x,segsH f dn (pre++post)] M:=by repeat (first | exact .nil | (apply Tk.cons;focus ((repeat (first | exact .here | apply Rem.there));done)))):WC P B n c Q e L :=
 fun a w ha hs=>h a w ha (segsH.inn (hs.take t))
theorem WL.segIn (pre post:List Seg) (x:Seg) (h:WL P B n ops l Q e (segsH f dn (pre++x :: post) :: M)) (t:Tk L [SGA f dn x,segsH f dn (pre++post)] M:=by repeat (first | exact .nil | (apply Tk.cons;focus ((repeat (first | exact .here | apply Rem.there));done)))):WL P B n ops l Q e L :=
 fun a w ha hs=>h a w ha (segsH.inn (hs.take t))
theorem WQ.segIn {xt:Exit} (pre post:List Seg) (x:Seg) (h:WQ B n Q xt e (segsH f dn (pre++x :: post) :: M)) (t:Tk L [SGA f dn x,segsH f dn (pre++post)] M:=by repeat (first | exact .nil | (apply Tk.cons;focus ((repeat (first | exact .here | apply Rem.there));done)))):WQ B n Q xt e L :=
 fun a w ha hs=>h a w ha (segsH.inn (hs.take t))
end
theorem WQ.dbfUp {B:Base} {n:Fr} {Q:Exit->Act->World->Prop} {e:Env} {L M:List HP} {xt:Exit} {f:Nat} {p:Pl} {dn:aa} {N W:Nat} {F0:FM} {ss:List SegA} (N' W':Nat) (hN:N<=N') (hW:W<=W') (h:WQ B n Q xt e (DBF f p dn N' F0 ss W' :: M)) (r:Rem L (DBF f p dn N F0 ss W) M:=by repeat (first | exact .here | apply Rem.there)):WQ B n Q xt e L :=
 fun a w ha hs=>h a w ha (DBF.wkn hW (DBF.up hN (Sat.front r hs)))
theorem segsH.one {f:Nat} {dn:aa} {pre post:List Seg} {x:Seg} {fn:FuncId} {args:Array Value} {v:Value} (h:Spec Tryz.prog fn args [SGA f dn x] fun F u M=>u=v/\M=SGA f dn x :: F):Spec Tryz.prog fn args [segsH f dn (pre++x :: post)] fun F u M=>u=v/\M=segsH f dn (pre++x :: post) :: F:=by
 refine Spec.post' (Spec.pre' (Spec.frame (segsH f dn (pre++post)) h) (pre':=[segsH f dn (pre++x :: post)]) fun B w F hs=>Sat.front (.there .here) (segsH.out hs)) ?_
 rintro F u M B w ⟨rfl,rfl⟩ hs
 exact ⟨_,⟨rfl,rfl⟩,segsH.inn hs⟩
theorem lz {f:Nat} {dn:aa} {pre post:List Seg} {x:Seg}:Spec Tryz.prog 44 #[x.ptr] [segsH f dn (pre++x :: post)] fun F u M=>u=.int .i64 (((byt x.a).length:Nat):Int)/\M=segsH f dn (pre++x :: post) :: F:=segsH.one Sm
theorem qy {f:Nat} {dn:aa} {pre post:List Seg} {x:Seg}:Spec Tryz.prog 50 #[x.ptr] [segsH f dn (pre++x :: post)] fun F u M=>u=.int .i64 ((x.base:Nat):Int)/\M=segsH f dn (pre++x :: post) :: F:=segsH.one Sn
theorem L3 {f:Nat} {dn:aa} {pre post:List Seg} {x:Seg} (hl:x.bs.length<=100000):Spec Tryz.prog 49 #[x.ptr] [segsH f dn (pre++x :: post)] fun F u M=>u=.int .i64 (i3 ((x.base:Nat):Int) x.bs)/\M=segsH f dn (pre++x :: post) :: F:=segsH.one (Sl hl)
abbrev jy (f:Nat) (dn:aa) (st:Sts) (u:Value):Obj:=.cells #[.pointer (some ⟨f,0,none⟩),sv (47 :: dn),.int .i64 st.seg,.int .i64 st.bytes,.int .i64 st.age,.bool st.comp,.int .i64 st.delay,u] 84 (0,0)
abbrev ptLs (pp f:Nat) (dn:aa) (st:Sts) (dp:List Value) (x:Nat×Nat×List Seg):List HP:=[pt pp (jy f dn st (.slice (some ⟨x.1,dp.length,none⟩) x.2.2.length (x.2.1 - dp.length))),buf x.1 86 x.2.1 (dp++x.2.2.map Seg.ptr),segsH f dn x.2.2]
structure PtI (dp:List Value) (ss:List SegA) (x:Nat×Nat×List Seg):Prop where
 l:x.2.2.map Seg.a=ss
 c:dp.length+x.2.2.length<=x.2.1
 m:x.2.1<=maxLen
 n:x.2.2.length<=100000
def PT (pp f:Nat) (dn:aa) (st:Sts) (dp:List Value) (ss:List SegA):HP:=exH (PtI dp ss) (ptLs pp f dn st dp)
theorem PT.opens (pp f:Nat) (dn:aa) (st:Sts) (dp:List Value) (ss:List SegA):Opens (PT pp f dn st dp ss) (PtI dp ss) (ptLs pp f dn st dp):=exH.opens
theorem gp {g c:Nat} {dp:List Value} {l:List Seg}:Reads (buf g 86 c (dp++l.map Seg.ptr)) (some ⟨g,dp.length,none⟩) (l.map Seg.ptr):=by
 have h:=(Reads.buf (g:=g) (e:=86) (k:=c) (xs:=dp++l.map Seg.ptr)).drop dp.length
 rwa [Nat.zero_add,List.drop_left] at h
theorem zi {l:List Seg} {pre:List SegA} {y:SegA} (h:l.map Seg.a=pre++[y]):∃ l0 z,l=l0++[z]/\l0.map Seg.a=pre/\z.a=y:=by
 rw [List.map_eq_append_iff] at h
 obtain ⟨a,b,rfl,h1,h2⟩:=h
 rw [List.map_eq_singleton_iff] at h2
 obtain ⟨z,rfl,h3⟩:=h2
 exact ⟨a,z,rfl,h1,h3⟩
theorem vk {l:List Seg} {post:List SegA} {y:SegA} (h:l.map Seg.a=y :: post):∃ z l0,l=z :: l0/\z.a=y/\l0.map Seg.a=post:=by
 rw [List.map_eq_cons_iff] at h
 obtain ⟨z,l0,rfl,h1,h2⟩:=h
 exact ⟨z,l0,rfl,h1,h2⟩
theorem C3 (l0:List Seg) (z:Seg):((l0++[z]).map Seg.ptr)[((((l0++[z]).length:Nat):Int) - 1).toNat]?=some z.ptr:=by
 rw [List.length_append,List.length_singleton,show (((l0.length+1:Nat):Int) - 1).toNat=l0.length by omega,List.map_append,List.getElem?_append_right (by rw [List.length_map];exact Nat.le_refl _),List.length_map,Nat.sub_self]
 rfl
theorem ie {pp f g r n c:Nat} {dn:aa} {st:Sts} (hn:0 < n) (hn2:n<=100000):Spec Tryz.prog 38 #[.pointer (some ⟨pp,0,none⟩)] [pt pp (jy f dn st (.slice (some ⟨g,r,none⟩) n c))] fun F v M=>v=.bool true/\M=pt pp (jy f dn st (.slice (some ⟨g,r,none⟩) n c)) :: F:=by
 refine Spec.intro Tryz.func38 rfl rfl fun B F=>?_
 simp only [Tryz.ntmps38,List.cons_append,List.nil_append,env0,Nat.reduceAdd]
 refine .sr (.assign (.x (.move ?_)))
 refine .neNil ?_ So
 refine .move (.gT (.move (.gT (.nilCheck (.gT ?_)))))
 refine .fa ?_ vh
 refine .gT ?_
 refine .ld ?_ sc29
 refine .gT ?_
 refine .neNil ?_ ui
 refine .cast (d:=10) (u:=.bool true) rfl rfl ?_
 refine .pickT (.move (.gT (.move (.gT (.nilCheck ?_)))))
 refine .gT ?_
 refine .fa ?_ eu
 refine .gT ?_
 refine .ld ?_ sc82
 refine .gT ?_
 refine .lenS ?_ sl82
 refine .gT ?_
 refine .gtr ?_
 refine .cast (d:=18) (u:=.bool true) rfl (cB9 (decide_eq_true (by omega))) ?_
 refine .pickT (.assign (.z (.ret (?_))))
 exact .ret1 (h1:=.tmp (t:=2) rfl) ⟨_,⟨rfl,rfl⟩,Am.auto⟩
theorem vl {pp f g r n c:Nat} {dn:aa} {st:Sts} {ys:List Value} {s:Nat} {R:HP} (hR:Reads R (some ⟨g,r,none⟩) ys) (hn:0 < n) (hn2:n<=100000) (hnc:n<=c) (hx:ys[(((n:Nat):Int) - 1).toNat]?=some (.pointer (some ⟨s,0,none⟩))):Spec Tryz.prog 43 #[.pointer (some ⟨pp,0,none⟩)] [pt pp (jy f dn st (.slice (some ⟨g,r,none⟩) n c)),R] fun F v M=>v=.pointer (some ⟨s,0,none⟩)/\M=pt pp (jy f dn st (.slice (some ⟨g,r,none⟩) n c)) :: R :: F:=by
 refine Spec.intro Tryz.func43 rfl rfl fun B F=>?_
 simp only [Tryz.ntmps43,List.cons_append,List.nil_append,env0,Nat.reduceAdd]
 refine .sr (.assign (.z (.seq ?_)))
 refine .dr ([pt pp (jy f dn st (.slice (some ⟨g,r,none⟩) n c)),R]) [] 13 mixed .autoJ ?_
 refine .tk 0 rfl .move ?_
 refine .tk 1 rfl .nilCheck ?_
 refine .tk 2 rfl (.fa eu) ?_
 refine .tk 3 rfl (.ld sc82) ?_
 refine .tk 4 rfl .move ?_
 refine .tk 5 rfl .nilCheck ?_
 refine .tk 6 rfl (.fa eu) ?_
 refine .tk 7 rfl (.ld sc82) ?_
 refine .tk 8 rfl (.lenS sl82) ?_
 refine .tk 9 rfl .sub ?_
 refine .tk 10 rfl (.idx1 so82) ?_
 refine .tk 11 rfl (Qt.ldR (i:=(((n:Nat):Int) - 1).toNat) sc86 hR hx) ?_
 refine .tk 12 rfl .assign ?_
 refine .fin ?_
 refine .next (.ret (?_))
 exact .ret1 (h1:=.tmp (t:=2) rfl) ⟨_,⟨rfl,rfl⟩,Am.auto⟩
theorem pz {pp f g r n c:Nat} {dn:aa} {st:Sts} (hn:0 < n) (hn2:n<=100000) (hnc:n<=c):Spec Tryz.prog 65 #[.pointer (some ⟨pp,0,none⟩)] [pt pp (jy f dn st (.slice (some ⟨g,r,none⟩) n c))] fun F v M=>v=.slice (some ⟨g,r,none⟩) (n - 1) c/\M=pt pp (jy f dn st (.slice (some ⟨g,r,none⟩) n c)) :: F:=by
 refine Spec.intro Tryz.func65 rfl rfl fun B F=>?_
 simp only [Tryz.ntmps65,List.cons_append,List.nil_append,env0,Nat.reduceAdd]
 refine .sr (.assign (.z (.seq ?_)))
 refine .dr ([pt pp (jy f dn st (.slice (some ⟨g,r,none⟩) n c))]) [] 12 mixed .autoJ ?_
 refine .tk 0 rfl .move ?_
 refine .tk 1 rfl .nilCheck ?_
 refine .tk 2 rfl (.fa eu) ?_
 refine .tk 3 rfl (.ld sc82) ?_
 refine .tk 4 rfl .move ?_
 refine .tk 5 rfl .nilCheck ?_
 refine .tk 6 rfl (.fa eu) ?_
 refine .tk 7 rfl (.ld sc82) ?_
 refine .tk 8 rfl (.lenS sl82) ?_
 refine .tk 9 rfl .sub ?_
 refine .tk 10 rfl ((Qt.slcH so82).eq (v':=.slice (some ⟨g,r,none⟩) (n - 1) c) (congrArg (fun z=>Value.slice (some ⟨g,r,none⟩) z c) (by omega))) ?_
 refine .tk 11 rfl .assign ?_
 refine .fin ?_
 refine .next (.ret (?_))
 exact .ret1 (h1:=.tmp (t:=2) rfl) ⟨_,⟨rfl,rfl⟩,Am.auto⟩
theorem oy {pp f:Nat} {dn:aa} {st:Sts} {dp:List Value} {ss:List SegA} {pre:List SegA} {y:SegA} (hs:ss=pre++[y]) (hy:y.2.length<=100000):Spec Tryz.prog 18 #[.pointer (some ⟨pp,0,none⟩)] [PT pp f dn st dp ss] fun F v M=>v=.int .i64 (i3 ((y.1:Nat):Int) y.2)/\M=PT pp f dn st dp ss :: F:=by
 refine Spec.intro Tryz.func18 rfl rfl fun B F=>?_
 simp only [Tryz.ntmps18,List.cons_append,List.nil_append,env0,Nat.reduceAdd]
 refine .openR (PT.opens pp f dn st dp ss) fun x hx=>?_
 obtain ⟨g0,c0,l⟩:=x
 obtain ⟨hl,hc1,hc2,hn2⟩:=hx
 simp only [ptLs,List.cons_append,List.nil_append] at hl hc1 hc2 hn2 ⊢
 rw [hs] at hl
 obtain ⟨l0,z,rfl,hl0,rfl⟩:=zi hl
 rw [<- hs] at hl
 have hn:0 < (l0++[z]).length:=by simp
 refine .sr (.assign (.z (.seq (.sr (.move ?_)))))
 refine .call (hc:=Tryz.call38) (sp:=ie hn hn2) (h:=?_)
 rintro _ _ ⟨rfl,rfl⟩
 refine .not ?_
 refine .z ?_
 refine .condF rfl rfl ?_
 refine .skip (.next (.sr (.move ?_)))
 refine .call (hc:=Tryz.call43) (sp:=vl (pp:=pp) (f:=f) (g:=g0) (r:=dp.length) (n:=(l0++[z]).length) (c:=c0 - dp.length) (dn:=dn) (st:=st) (ys:=(l0++[z]).map Seg.ptr) (s:=z.s) gp hn hn2 (by omega) (C3 l0 z)) (h:=?_)
 rintro _ _ ⟨rfl,rfl⟩
 refine .call (hc:=Tryz.call49) (sp:=L3 (f:=f) (dn:=dn) (pre:=l0) (post:=[]) (x:=z) hy) (h:=?_)
 rintro _ _ ⟨rfl,rfl⟩
 refine .assign (.z (.ret (?_)))
 refine .shutR (PT.opens pp f dn st dp ss) (g0,c0,l0++[z]) ⟨hl,hc1,hc2,hn2⟩ ?_
 exact .ret1 (h1:=.tmp (t:=2) rfl) ⟨_,⟨rfl,rfl⟩,Am.auto⟩
theorem oz {pp f:Nat} {dn:aa} {st:Sts} {dp:List Value} {ss:List SegA} {post:List SegA} {y:SegA} (hs:ss=y :: post):Spec Tryz.prog 19 #[.pointer (some ⟨pp,0,none⟩)] [PT pp f dn st dp ss] fun F v M=>v=.int .i64 ((y.1:Nat):Int)/\M=PT pp f dn st dp ss :: F:=by
 refine Spec.intro Tryz.func19 rfl rfl fun B F=>?_
 simp only [Tryz.ntmps19,List.cons_append,List.nil_append,env0,Nat.reduceAdd]
 refine .openR (PT.opens pp f dn st dp ss) fun x hx=>?_
 obtain ⟨g0,c0,l⟩:=x
 obtain ⟨hl,hc1,hc2,hn2⟩:=hx
 simp only [ptLs,List.cons_append,List.nil_append] at hl hc1 hc2 hn2 ⊢
 rw [hs] at hl
 obtain ⟨z,l0,rfl,rfl,hl0⟩:=vk hl
 rw [<- hs] at hl
 have hn:0 < (z :: l0).length:=by simp
 refine .sr (.assign (.z (.seq (.sr (.move ?_)))))
 refine .call (hc:=Tryz.call38) (sp:=ie hn hn2) (h:=?_)
 rintro _ _ ⟨rfl,rfl⟩
 refine .not ?_
 refine .z ?_
 refine .condF rfl rfl ?_
 refine .skip (.next (.sr (.move (.nilCheck ?_))))
 refine .fa ?_ eu
 refine .ld ?_ sc82
 refine .idx1 ?_ so82
 refine .ldR (i:=0) (v:=z.ptr) ?_ sc86 (gp (l:=z :: l0)) rfl
 refine .call (hc:=Tryz.call50) (sp:=qy (f:=f) (dn:=dn) (pre:=[]) (post:=l0) (x:=z)) (h:=?_)
 rintro _ _ ⟨rfl,rfl⟩
 refine .assign (.z (.ret (?_)))
 refine .shutR (PT.opens pp f dn st dp ss) (g0,c0,z :: l0) ⟨hl,hc1,hc2,hn2⟩ ?_
 exact .ret1 (h1:=.tmp (t:=2) rfl) ⟨_,⟨rfl,rfl⟩,Am.auto⟩
theorem zj {el size k:Nat} {v:Value} {xs:List Value} (hk:0 < k):∀ h,rowR el size v k xs h->∃ x:Nat×Nat×Nat,v=.slice (some ⟨x.1,0,none⟩) k x.2.1/\buf x.1 el x.2.2 xs h:=by
 intro h hh
 obtain ⟨x,⟨h1,h2⟩,h3⟩:=jl hk h hh
 unfold pt at h3
 refine ⟨(x.1,x.2.1,x.2.2.size),h1,?_⟩
 unfold buf
 refine ⟨x.2.2,h3,rfl,h2,?_⟩
 have h4:=congrArg List.length h2
 rw [List.length_take] at h4
 have:x.2.2.toList.length=x.2.2.size:=Array.length_toList
 show xs.length<=x.2.2.size
 omega
def midR (l:List Rc) (i:Nat):List Rc:=fw 0 (l.take i)++l.drop i
theorem Io (l:List Rc):midR l 0=l:=by simp [midR,fw]
theorem Ip (l:List Rc):midR l l.length=fw 0 l:=by simp [midR]
theorem L4 {l:List Rc} {i:Nat} (hi:i < l.length):((midR l i).flatMap Rc.v).set (0+((i:Nat):Int).toNat * 6+5) (.int .i64 ((i:Nat):Int))=(midR l (i+1)).flatMap Rc.v:=by
 obtain ⟨r,hr⟩:∃ r,l[i]?=some r:=⟨_,List.getElem?_eq_getElem hi⟩
 have h1:l.drop i=r :: l.drop (i+1):=by
  rw [List.drop_eq_getElem_cons hi]
  rw [List.getElem?_eq_getElem hi] at hr
  injection hr with hr
  rw [hr]
 have h2:((fw 0 (l.take i)).flatMap Rc.v).length=i * 6:=by
  rw [a7 Rc.v_len,ji,List.length_take]
  congr 1
  omega
 unfold midR
 rw [Eh hr,h1,List.flatMap_append,List.flatMap_append,List.flatMap_append,List.set_append,h2]
 rw [if_neg (by rw [Int.toNat_natCast];omega),show 0+((i:Nat):Int).toNat * 6+5 - i * 6=5 by rw [Int.toNat_natCast];omega,List.append_assoc]
 congr 1
theorem L5 {l:List Rc} {i:Nat} (hi:i<=l.length):((midR l i).flatMap Rc.v).length=l.length * 6:=by
 unfold midR
 rw [a7 Rc.v_len,List.length_append,ji,List.length_take,List.length_drop]
 congr 1
 omega
theorem Sp (a s p q:Int) (A:Option Addr) (m c:Nat):bg Tryz.prog 44 [(0,.int .i64 a),(1,.int .i64 s),(2,.int .i64 p),(3,.int .i64 q),(4,.slice A m c)] #[.int .i64 a,.int .i64 s,.int .i64 p,.int .i64 q,.slice A m c]:=fun w=>by kernel_rfl
theorem L6 {R:HP} {A:Option Addr} {c:Nat} {b:Bt} (hR:Reads R A b.rv) (hl:b.recs.length<=10000):Spec Tryz.prog 87 #[.agg (b.v (.slice A b.recs.length c)).toArray] [R] fun F v M=>v=.int .i64 (batE b)/\M=R :: F:=by
 refine Spec.intro Tryz.func87 rfl rfl fun B F=>?_
 simp only [Tryz.ntmps87,List.cons_append,List.nil_append,env0,Nat.reduceAdd]
 refine .sr ?_
 refine .box fun b1=>?_
 refine .assign (.x ?_)
 refine .ldA ?_ ex
 refine .call (hc:=Tryz.call40) (sp:=tq hR hl) (h:=?_)
 rintro _ _ (⟨hE,rfl,rfl⟩ | ⟨hE,g,q,⟨rfl,h1,h2⟩,rfl⟩)
 ·refine .move ?_
  refine .extract (.extract ?_)
  refine .assign (.assign (.x (.move (.assign (.z ?_)))))
  refine .ret (?_)
  exact .ret1 (h1:=.tmp (t:=2) rfl) ⟨_,⟨rfl,rfl⟩,Am.auto⟩
 ·refine .move ?_
  refine .extract (.extract ?_)
  refine .assign (.assign (.x (.move (.assign (.z ?_)))))
  refine .ret (?_)
  exact .ret1 (h1:=.tmp (t:=2) rfl) ⟨_,⟨by rw [hE];rfl,rfl⟩,Am.auto⟩
theorem L7 {R:HP} {A:Addr} {c:Nat} {base prod seq:Int} {l:List Rc} (hR:Reads R (some A) (l.flatMap Rc.v)) (hpos:0 < l.length) (hl:l.length<=10000):Spec Tryz.prog 39 #[.int .i64 base,.int .i64 prod,.int .i64 seq,.slice (some A) l.length c] [R]
  fun F v M=>(batE (aq base prod seq l)≠0/\v=.tuple #[.agg #[.int .i64 0,.int .i64 0,.int .i64 0,.int .i64 0,.slice none 0 0],.int .i64 (batE (aq base prod seq l))]/\M=R :: F) ∨
   (batE (aq base prod seq l)=0/\∃ g c2 q,v=.tuple #[.agg ((aq base prod seq l).v (.slice (some ⟨g,0,none⟩) (aq base prod seq l).recs.length c2)).toArray,.int .i64 0]/\M=buf g 95 q (aq base prod seq l).rv :: R :: F):=by
 refine Spec.intro Tryz.func39 rfl rfl fun B F=>?_
 simp only [Tryz.ntmps39,List.cons_append,List.nil_append,env0,Nat.reduceAdd]
 have hn:(aq base prod seq l).recs.length=l.length:=ji l 0
 refine .sr ?_
 refine .alloc z44 fun b8=>?_
 refine .assign (.x (.move ?_))
 refine .call (hc:=Tryz.call86) (sp:=zg (l:=l) hR hpos (by omega)) (h:=?_)
 rintro _ _ ⟨A2,c2,rfl,rfl⟩
 refine .toE (A:=rowR 95 6 (.slice (some A2) l.length c2) l.length (l.flatMap Rc.v)) (zj hpos) ?_
 rintro ⟨g2,c3,q⟩ hv2
 injection hv2 with hA2 _ hc2
 injection hA2 with hA2
 simp only at hA2 hc2
 subst hA2
 subst hc2
 refine .to (A:=buf g2 95 q (l.flatMap Rc.v)) (A':=buf g2 95 q ((midR l 0).flatMap Rc.v)) (fun h hh=>by rw [Io];exact hh) ?_
 refine .assign (.z (.seq (.sr (.move ?_))))
 refine .lenS ?_ sl37
 refine .move (.z (.block ?_))
 refine .loopA (σ:=Nat) (fun i=>[(0,.int .i64 base),(1,.int .i64 prod),(2,.int .i64 seq),(3,.slice (some ⟨g2,0,none⟩) l.length c2),(8,.pointer (some ⟨b8,0,none⟩)),(9,.int .i64 0),(16,.int .i64 ((l.length:Nat):Int)),(17,.int .i64 ((i:Nat):Int))]) (fun i=>[pt b8 (.cells #[.int .i64 0,.int .i64 0,.int .i64 0,.int .i64 0,.slice none 0 0] 44 (0,0)),buf g2 95 q ((midR l i).flatMap Rc.v),R]++F) (fun i=>i<=l.length) (fun i=>l.length - i) 0 (Nat.zero_le _) ?_
 rintro i hi
 refine .sr ?_
 refine .lss ?_
 refine .z (.seq ?_)
 refine .cond rfl (fun hd=>?_) (fun hd=>?_)
 ·have hil:i < l.length:=by have h:((i:Nat):Int) < ((l.length:Nat):Int):=of_decide_eq_true hd;omega
  refine .skip (.next (.seq (.block (.sr (.move (.assign (.y (.move (.move ?_)))))))))
  refine .move ?_
  refine .idx ?_ so37
  refine .fa ?_ ou
  refine .stB (i:=0+((i:Nat):Int).toNat * 6+5) ?_ sc3 (by rw [L5 (by omega),Int.toNat_natCast];omega)
  rw [L4 hil]
  refine .nil (.blockNormal (.next (.region ?_)))
  refine .add ?_
  refine .move (.nil ?_)
  exact .back (i+1) (show i+1<=l.length from hil) (show l.length - (i+1) < l.length - i by omega)
 ·have hge:i=l.length:=by have h:¬ ((i:Nat):Int) < ((l.length:Nat):Int):=of_decide_eq_false hd;have h2:i<=l.length:=hi;omega
  subst hge
  rw [Ip]
  refine .exit (.thenExit (.thenExit (.blockExit (?_))))
  refine .next (.sr (.move (.move ?_)))
  refine .lenS ?_ sl37
  refine .maxI ?_
  refine .cast (d:=29) (u:=.int .i64 (max ((l.length:Nat):Int) 1)) rfl (cI9 (by split<;>omega)) ?_
  refine .move (.move (.move ?_))
  refine .build ?_ (Sp _ _ _ _ _ _ _)
  refine .alloc z44 fun b11=>?_
  refine .stV ?_ ex
  refine .z (.seq (.sr ?_))
  refine .ldA ?_ ex
  refine .cast (d:=34) (u:=.agg ((aq base prod seq l).v (.slice (some ⟨g2,0,none⟩) (aq base prod seq l).recs.length c2)).toArray) rfl (by rw [hn];rfl) ?_
  refine .call (hc:=Tryz.call87) (sp:=L6 (R:=buf g2 95 q ((fw 0 l).flatMap Rc.v)) (A:=some ⟨g2,0,none⟩) (c:=c2) (b:=aq base prod seq l) Reads.buf (by rw [hn];omega)) (h:=?_)
  rintro _ _ ⟨rfl,rfl⟩
  refine .assign (.x (.move ?_))
  refine .nei ?_
  refine .z ?_
  refine .cond rfl (fun hq=>?_) (fun hq=>?_)
  ·have hne:batE (aq base prod seq l)≠0:=by simpa using hq
   refine .sr ?_
   refine .build ?_ Sb
   refine .move ?_
   refine .stV ?_ ex
   refine .assign (.z ?_)
   refine .ret (.thenRet (?_))
   exact .ret2 (h2:=.tmp (t:=9) rfl) ⟨_,.inl ⟨hne,rfl,rfl⟩,Am.auto⟩
  ·have h0:batE (aq base prod seq l)=0:=by simpa using hq
   refine .skip (.next (.sr ?_))
   refine .ldA ?_ ex
   refine .stV ?_ ex
   refine .assign (.z (.ret (?_)))
   exact .ret2 (h2:=.tmp (t:=9) rfl) ⟨_,.inr ⟨h0,g2,c2,q,by rw [hn],rfl⟩,Am.auto⟩
theorem sc30 :ah Tryz.prog 30=true:=by kernel_rfl
theorem d4 :ad Tryz.prog 84 2 2=true:=by kernel_rfl
theorem C4 :ad Tryz.prog 84 1 1=true:=by kernel_rfl
theorem z86 :ax Tryz.prog 86=some (#[.pointer none]):=by kernel_rfl
theorem bsPS (s:Nat):az Tryz.prog 82 1 [(0,.pointer (some ⟨s,0,none⟩))] 86 #[.pointer (some ⟨s,0,none⟩)]:=fun w=>by kernel_rfl
def addP (seg:Int) (pre:List SegA) (base:Nat) (bs:List Bt) (b:Bt):List SegA :=
 if (bs.flatMap batB).length=0 ∨ (((bs.flatMap batB).length:Nat):Int)+(((batB b).length:Nat):Int)<=seg then pre++[(base,bs++[b])] else pre++[(base,bs)]++[(b.base.toNat,[b])]
def addN (seg:Int) (bs:List Bt) (b:Bt) (N:Nat):Nat:=if (bs.flatMap batB).length=0 ∨ (((bs.flatMap batB).length:Nat):Int)+(((batB b).length:Nat):Int)<=seg then N else N+1
theorem Pu {seg:Int} {bs:List Bt} {b:Bt} {N:Nat}:addN seg bs b N<=N+1:=by
 unfold addN
 split<;>omega
theorem DRF.up {f:Nat} {p:Pl} {dn:aa} {N N':Nat} {ss:List SegA} {B:Base} {w:World} {M:List HP} (hN:N<=N') (hs:Sat B w (DRF f p dn N ss :: M)):Sat B w (DRF f p dn N' ss :: M):=by
 obtain ⟨fl,hfl,h1⟩:=Sat.opens hs (DRF.opens f p dn N ss)
 obtain ⟨x,hx,h2⟩:=Sat.opens h1 (DR.opens f p dn N fl)
 exact Sat.shuts (DRF.opens f p dn N' ss) (x:=fl) hfl (Sat.shuts (DR.opens f p dn N' fl) (x:=x) (hx.up hN) h2)
theorem zk {l0:List Seg} {s base:Nat} {bs bs':List Bt}:(l0++[(⟨s,base,bs⟩:Seg)]).length=(l0++[(⟨s,base,bs'⟩:Seg)]).length/\(l0++[(⟨s,base,bs⟩:Seg)]).map Seg.ptr=(l0++[(⟨s,base,bs'⟩:Seg)]).map Seg.ptr:=by
 refine ⟨by simp,?_⟩
 rw [List.map_append,List.map_append]
 rfl
theorem vm (l:List Value) (h:∀ v∈l,∃ s:Nat,v=.pointer (some ⟨s,0,none⟩)):∀ u∈l,Value.single u=true:=fun u hu=>by
 obtain ⟨s,rfl⟩:=h u hu
 rfl
theorem L8 {pp f N base nb:Nat} {dn:aa} {st:Sts} {p:Pl} {pre:List SegA} {bs:List Bt} {b:Bt} {A:Addr} {R:HP} {bp bX bb bn gx qx cb:Nat} {F0:FM} (hp:PlP p) (hf:FitsP p N (pre++[(base,bs)])) (hN1:N+1<=200) (hN2:N+4<=p.ino) (hN3:pre.length<=55) (hdn:dn.length<=900) (hR:Reads R (some A) b.rv) (hE:batE b=0) (hl:b.recs.length<=10000) (hnb:b.base=((nb:Nat):Int)) (hnx:b.base=i3 ((base:Nat):Int) bs) (hbs:∀ y∈(pre++[(base,bs)]),y.1<=1125899906842624/\(bs≠[]->((y.1:Nat):Int) < b.base)) (hrows:bs.length<=9999) (hsz:(bs.flatMap batB).length<=60000):Spec Tryz.prog 42 #[.pointer (some ⟨bp,0,none⟩),.pointer (some ⟨bX,0,none⟩),.pointer (some ⟨bb,0,none⟩),.pointer (some ⟨bn,0,none⟩)] [DBF f p dn N F0 (pre++[(base,bs)]) 0,bun [pt bp (.cells #[.pointer (some ⟨pp,0,none⟩)] 30 (0,0)),pt bX (.cells #[.slice (some ⟨gx,0,none⟩) (batB b).length qx] 79 (0,0)),pt bb (.cells (b.v (.slice (some A) b.recs.length cb)).toArray 44 (0,0)),pt bn (.cells #[.int .i64 ((nb:Nat):Int)] 3 (0,0)),PT pp f dn st [] (pre++[(base,bs)]),R]] fun F v M=>v=okV/\M=DBF f p dn (addN st.seg bs b N) F0 (addP st.seg pre base bs b) 49 :: bun [pt bp (.cells #[.pointer (some ⟨pp,0,none⟩)] 30 (0,0)),pt bX (.cells #[.slice (some ⟨gx,0,none⟩) (batB b).length qx] 79 (0,0)),pt bb (.cells (b.v (.slice (some A) b.recs.length cb)).toArray 44 (0,0)),pt bn (.cells #[.int .i64 ((nb:Nat):Int)] 3 (0,0)),PT pp f dn st [] (addP st.seg pre base bs b),R] :: F:=by
 refine Spec.intro Tryz.func42 rfl rfl fun B F=>?_
 simp only [Tryz.ntmps42,List.cons_append,List.nil_append,env0,Nat.reduceAdd]
 refine .openR (bun.opens _) fun _ _=>?_
 simp only [List.cons_append,List.nil_append]
 refine .openR (PT.opens pp f dn st [] (pre++[(base,bs)])) fun x hx=>?_
 obtain ⟨g0,c0,l⟩:=x
 obtain ⟨hls,hc1,hc2,hn2⟩:=hx
 simp only [ptLs,List.cons_append,List.nil_append] at hls hc1 hc2 hn2 ⊢
 obtain ⟨l0,z,rfl,hl0,hz⟩:=zi hls
 obtain ⟨s,zb,zbs⟩:=z
 obtain ⟨rfl,rfl⟩:base=zb/\bs=zbs:=by injection hz with h1 h2;exact ⟨h1.symm,h2.symm⟩
 have hn:0 < (l0++[(⟨s,base,bs⟩:Seg)]).length:=by simp
 have hlen:(l0++[(⟨s,base,bs⟩:Seg)]).length=(pre++[(base,bs)]).length:=by rw [<- hls,List.length_map]
 have hflen:=hf.len
 obtain ⟨hb6,_⟩:=qw hE
 obtain ⟨hbr,_,_⟩:=xv hE
 refine .sr (.assign (.x ?_))
 refine .ld ?_ sc30
 refine .call (hc:=Tryz.call43) (sp:=vl (pp:=pp) (f:=f) (g:=g0) (r:=([]:List Value).length) (n:=(l0++[(⟨s,base,bs⟩:Seg)]).length) (c:=c0 - ([]:List Value).length) (dn:=dn) (st:=st) (ys:=(l0++[(⟨s,base,bs⟩:Seg)]).map Seg.ptr) (s:=s) gp hn hn2 (by simp only [List.length_nil] at hc1 ⊢;omega) (C3 l0 _)) (h:=?_)
 rintro _ _ ⟨rfl,rfl⟩
 refine .assign (.z (.seq (.seq ?_)))
 by_cases h0:(bs.flatMap batB).length=0
 ·have hadd:(addP st.seg pre base bs b)=pre++[(base,bs++[b])]:=by unfold addP;exact if_pos (.inl h0)
  rw [hadd,show addN st.seg bs b N=N by unfold addN;exact if_pos (.inl h0)]
  refine .dr ([pt bp (.cells #[.pointer (some ⟨pp,0,none⟩)] 30 (0,0)),pt bX (.cells #[.slice (some ⟨gx,0,none⟩) (batB b).length qx] 79 (0,0)),pt pp (jy f dn st (.slice (some ⟨g0,0,none⟩) (l0++[(⟨s,base,bs⟩:Seg)]).length c0))]) [] 16 mixed .autoJ ?_
  refine .tk 0 rfl .move ?_
  refine .on 1 rfl fun hnp=>?_
  refine .call (hc:=Tryz.call44) (sp:=lz (f:=f) (dn:=dn) (pre:=l0) (post:=[]) (x:=⟨s,base,bs⟩)) (h:=?_)
  rintro _ _ ⟨rfl,rfl⟩
  rw [show (byt (Seg.a ⟨s,base,bs⟩)).length=0 from h0]
  refine .nil (.wa hnp ?_)
  refine .tk 2 rfl .eqi ?_
  refine .tk 3 rfl .move ?_
  refine .tf 4 rfl ?_
  refine .tf 5 rfl ?_
  refine .tf 6 rfl ?_
  refine .tf 7 rfl ?_
  refine .tf 8 rfl ?_
  refine .tf 9 rfl ?_
  refine .tf 10 rfl ?_
  refine .tf 11 rfl ?_
  refine .tf 12 rfl ?_
  refine .tf 13 rfl ?_
  refine .tf 14 rfl ?_
  refine .tk 15 rfl .pickT ?_
  refine .fin ?_
  refine .next ?_
  refine .condT rfl rfl ?_
  refine .sr (.move ?_)
  refine .ldA ?_ ex
  refine .segOut l0 [] ?_
  refine .call (hc:=Tryz.call45) (sp:=tz (s:=s) (f:=f) (base:=((base:Nat):Int)) (path:=d3 dn (aw base)) (bs:=bs) (b:=b) (H:=DBF f p dn N F0 (pre++[(base,bs)]) 0) (H':=DBF f p dn N F0 (pre++[(base,bs++[b])]) 40) hR hE hl (by rw [hnx];exact Int.le_refl _) (by omega) (by omega) (fun R A cc hR2 h1 h2=>xp hp hf (by decide) hR2 rfl h1 h2 hb6 (by omega))) (h:=?_)
  rintro _ _ ⟨rfl,rfl⟩
  refine .segIn l0 [] (⟨s,base,bs++[b]⟩:Seg) ?_
  refine .assign (.z ?_)
  refine .ret (.thenRet (?_))
  have hs1:=zk (l0:=l0) (s:=s) (base:=base) (bs:=bs) (bs':=bs++[b])
  rw [hs1.1] at hc1 hn2
  rw [hs1.1,hs1.2]
  refine .dbfUp (N:=N) (W:=40) (F0:=F0) (ss:=pre++[(base,bs++[b])]) N 49 (Nat.le_refl _) (by decide) ?_
  refine .shutR (PT.opens pp f dn st [] (pre++[(base,bs++[b])])) (g0,c0,l0++[(⟨s,base,bs++[b]⟩:Seg)]) ⟨by rw [List.map_append,hl0];rfl,hc1,hc2,hn2⟩ ?_
  refine .shutR (bun.opens [pt bp (.cells #[.pointer (some ⟨pp,0,none⟩)] 30 (0,0)),pt bX (.cells #[.slice (some ⟨gx,0,none⟩) (batB b).length qx] 79 (0,0)),pt bb (.cells (b.v (.slice (some A) b.recs.length cb)).toArray 44 (0,0)),pt bn (.cells #[.int .i64 ((nb:Nat):Int)] 3 (0,0)),PT pp f dn st [] (pre++[(base,bs++[b])]),R]) () trivial ?_
  exact .ret1 (h1:=.tmp (t:=4) rfl) ⟨_,⟨rfl,rfl⟩,Am.auto⟩
 ·obtain ⟨m,hm⟩:∃ m,(bs.flatMap batB).length=m+1:=⟨(bs.flatMap batB).length - 1,by omega⟩
  by_cases h1:(((m+1:Nat):Nat):Int)+(((batB b).length:Nat):Int)<=st.seg
  ·have hadd:(addP st.seg pre base bs b)=pre++[(base,bs++[b])]:=by unfold addP;exact if_pos (.inr (by rw [hm];exact h1))
   rw [hadd,show addN st.seg bs b N=N by unfold addN;exact if_pos (.inr (by rw [hm];exact h1))]
   refine .dr ([pt bp (.cells #[.pointer (some ⟨pp,0,none⟩)] 30 (0,0)),pt bX (.cells #[.slice (some ⟨gx,0,none⟩) (batB b).length qx] 79 (0,0)),pt pp (jy f dn st (.slice (some ⟨g0,0,none⟩) (l0++[(⟨s,base,bs⟩:Seg)]).length c0))]) [] 16 mixed .autoJ ?_
   refine .tk 0 rfl .move ?_
   refine .on 1 rfl fun hnp=>?_
   refine .call (hc:=Tryz.call44) (sp:=lz (f:=f) (dn:=dn) (pre:=l0) (post:=[]) (x:=⟨s,base,bs⟩)) (h:=?_)
   rintro _ _ ⟨rfl,rfl⟩
   rw [show (byt (Seg.a ⟨s,base,bs⟩)).length=m+1 from hm]
   refine .nil (.wa hnp ?_)
   refine .tk 2 rfl .eqi ?_
   refine .tk 3 rfl .move ?_
   refine .tn 4 rfl .move ?_
   refine .tn 6 rfl (.ld sc79) ?_
   refine .tn 7 rfl (.lenS sl79) ?_
   refine .tn 9 rfl (.ld sc30) ?_
   refine .tn 10 rfl .nilCheck ?_
   refine .tn 11 rfl (.fa d4) ?_
   refine .tn 12 rfl (.fa ve) ?_
   refine .tn 13 rfl (.ld sc3) ?_
   refine .on 5 rfl fun hnp=>?_
   refine .gT ?_
   refine .call (hc:=Tryz.call44) (sp:=lz (f:=f) (dn:=dn) (pre:=l0) (post:=[]) (x:=⟨s,base,bs⟩)) (h:=?_)
   rintro _ _ ⟨rfl,rfl⟩
   rw [show (byt (Seg.a ⟨s,base,bs⟩)).length=m+1 from hm]
   refine .nil (.wa hnp ?_)
   refine .tn 8 rfl .add ?_
   refine .tn 14 rfl .leq ?_
   refine .tk 15 rfl .pickF ?_
   refine .fin ?_
   refine .next ?_
   refine .condT rfl (cB9 (decide_eq_true (by omega))) ?_
   refine .sr (.move ?_)
   refine .ldA ?_ ex
   refine .segOut l0 [] ?_
   refine .call (hc:=Tryz.call45) (sp:=tz (s:=s) (f:=f) (base:=((base:Nat):Int)) (path:=d3 dn (aw base)) (bs:=bs) (b:=b) (H:=DBF f p dn N F0 (pre++[(base,bs)]) 0) (H':=DBF f p dn N F0 (pre++[(base,bs++[b])]) 40) hR hE hl (by rw [hnx];exact Int.le_refl _) (by omega) (by omega) (fun R A cc hR2 h1 h2=>xp hp hf (by decide) hR2 rfl h1 h2 hb6 (by omega))) (h:=?_)
   rintro _ _ ⟨rfl,rfl⟩
   refine .segIn l0 [] (⟨s,base,bs++[b]⟩:Seg) ?_
   refine .assign (.z ?_)
   refine .ret (.thenRet (?_))
   have hs1:=zk (l0:=l0) (s:=s) (base:=base) (bs:=bs) (bs':=bs++[b])
   rw [hs1.1] at hc1 hn2
   rw [hs1.1,hs1.2]
   refine .dbfUp (N:=N) (W:=40) (F0:=F0) (ss:=pre++[(base,bs++[b])]) N 49 (Nat.le_refl _) (by decide) ?_
   refine .shutR (PT.opens pp f dn st [] (pre++[(base,bs++[b])])) (g0,c0,l0++[(⟨s,base,bs++[b]⟩:Seg)]) ⟨by rw [List.map_append,hl0];rfl,hc1,hc2,hn2⟩ ?_
   refine .shutR (bun.opens [pt bp (.cells #[.pointer (some ⟨pp,0,none⟩)] 30 (0,0)),pt bX (.cells #[.slice (some ⟨gx,0,none⟩) (batB b).length qx] 79 (0,0)),pt bb (.cells (b.v (.slice (some A) b.recs.length cb)).toArray 44 (0,0)),pt bn (.cells #[.int .i64 ((nb:Nat):Int)] 3 (0,0)),PT pp f dn st [] (pre++[(base,bs++[b])]),R]) () trivial ?_
   exact .ret1 (h1:=.tmp (t:=4) rfl) ⟨_,⟨rfl,rfl⟩,Am.auto⟩
  ·have hadd:(addP st.seg pre base bs b)=pre++[(base,bs)]++[(nb,[b])]:=by unfold addP;rw [if_neg (by rw [hm];exact fun h=>h.elim (fun h=>Nat.succ_ne_zero _ h) h1),hnb];rfl
   rw [hadd,show addN st.seg bs b N=N+1 by unfold addN;exact if_neg (by rw [hm];exact fun h=>h.elim (fun h=>Nat.succ_ne_zero _ h) h1)]
   have hne:bs≠[]:=fun h=>by rw [h] at hm;cases hm
   refine .dr ([pt bp (.cells #[.pointer (some ⟨pp,0,none⟩)] 30 (0,0)),pt bX (.cells #[.slice (some ⟨gx,0,none⟩) (batB b).length qx] 79 (0,0)),pt pp (jy f dn st (.slice (some ⟨g0,0,none⟩) (l0++[(⟨s,base,bs⟩:Seg)]).length c0))]) [] 16 mixed .autoJ ?_
   refine .tk 0 rfl .move ?_
   refine .on 1 rfl fun hnp=>?_
   refine .call (hc:=Tryz.call44) (sp:=lz (f:=f) (dn:=dn) (pre:=l0) (post:=[]) (x:=⟨s,base,bs⟩)) (h:=?_)
   rintro _ _ ⟨rfl,rfl⟩
   rw [show (byt (Seg.a ⟨s,base,bs⟩)).length=m+1 from hm]
   refine .nil (.wa hnp ?_)
   refine .tk 2 rfl .eqi ?_
   refine .tk 3 rfl .move ?_
   refine .tn 4 rfl .move ?_
   refine .tn 6 rfl (.ld sc79) ?_
   refine .tn 7 rfl (.lenS sl79) ?_
   refine .tn 9 rfl (.ld sc30) ?_
   refine .tn 10 rfl .nilCheck ?_
   refine .tn 11 rfl (.fa d4) ?_
   refine .tn 12 rfl (.fa ve) ?_
   refine .tn 13 rfl (.ld sc3) ?_
   refine .on 5 rfl fun hnp=>?_
   refine .gT ?_
   refine .call (hc:=Tryz.call44) (sp:=lz (f:=f) (dn:=dn) (pre:=l0) (post:=[]) (x:=⟨s,base,bs⟩)) (h:=?_)
   rintro _ _ ⟨rfl,rfl⟩
   rw [show (byt (Seg.a ⟨s,base,bs⟩)).length=m+1 from hm]
   refine .nil (.wa hnp ?_)
   refine .tn 8 rfl .add ?_
   refine .tn 14 rfl .leq ?_
   refine .tk 15 rfl .pickF ?_
   refine .fin ?_
   refine .next ?_
   refine .condF rfl (cB9 (decide_eq_false (by omega))) ?_
   refine .skip (.next (.seq ?_))
   refine .dr ([pt bp (.cells #[.pointer (some ⟨pp,0,none⟩)] 30 (0,0)),pt bn (.cells #[.int .i64 ((nb:Nat):Int)] 3 (0,0)),pt pp (jy f dn st (.slice (some ⟨g0,0,none⟩) (l0++[(⟨s,base,bs⟩:Seg)]).length c0))]) [] 17 mixed .autoJ ?_
   refine .tk 0 rfl (.ld sc30) ?_
   refine .tk 1 rfl .nilCheck ?_
   refine .tk 2 rfl (.fa vh) ?_
   refine .tk 3 rfl (.ld sc29) ?_
   refine .tk 4 rfl (.ld sc30) ?_
   refine .tk 5 rfl .nilCheck ?_
   refine .tk 6 rfl (.fa C4) ?_
   refine .tk 7 rfl (.ld sc9) ?_
   refine .tk 8 rfl (.ld sc3) ?_
   refine .tk 10 rfl (.ld sc3) ?_
   refine .on 9 rfl fun hnp=>?_
   refine .call (hc:=Tryz.call47) (sp:=lx (dir:=47 :: dn) (b:=nb) (by simp only [List.length_cons];omega) (by omega)) (h:=?_)
   rintro _ _ ⟨rfl,rfl⟩
   rw [ly]
   refine .nil (.wa hnp ?_)
   refine .on 11 rfl fun hnp=>?_
   refine .call (hc:=Tryz.call46) (sp:=Im (f:=f) (base:=((nb:Nat):Int)) (path:=d3 dn (aw nb)) (H:=DBF f p dn N F0 (pre++[(base,bs)]) 0) (H':=DBF f p dn (N+1) F0 (pre++[(base,bs)]++[(nb,[])]) 9) (by omega) (C1 hp hf (by decide) (by omega) (fun y hy=>⟨fun he=>by have:=(hbs y hy).2 hne;omega,(hbs y hy).1⟩))) (h:=?_)
   rintro _ _ ⟨s2,rfl,rfl⟩
   refine .nil (.wa hnp ?_)
   refine .tk 12 rfl .move ?_
   refine .tk 13 rfl .extract ?_
   refine .tk 14 rfl .extract ?_
   refine .tk 15 rfl .assign ?_
   refine .tk 16 rfl .assign ?_
   refine .fin ?_
   refine .next (.seq (.sr (.move ?_)))
   refine .eqi ?_
   refine .z ?_
   refine .condT rfl rfl ?_
   refine .region (.move ?_)
   refine .ldA ?_ ex
   refine .call (hc:=Tryz.call45) (sp:=tz (s:=s2) (f:=f) (base:=((nb:Nat):Int)) (path:=d3 dn (aw nb)) (bs:=[]) (b:=b) (H:=DBF f p dn (N+1) F0 (pre++[(base,bs)]++[(nb,[])]) 9) (H':=DBF f p dn (N+1) F0 (pre++[(base,bs)]++[(nb,[]++[b])]) 49) hR hE hl (by rw [hnb];exact Int.le_refl _) (by simp) (by simp) (fun R A cc hR2 h1 h2=>xp (pre:=pre++[(base,bs)]) (post:=[]) (b:=nb) (bs:=[]) hp ⟨hN1,hN2,by simp only [List.length_append,List.length_singleton];omega,by have:=hf.byt;rw [qv];show _+(0+0)<=_;omega⟩ (by decide) hR2 rfl h1 h2 hb6 (by show 0+_<=_;omega))) (h:=?_)
   rintro _ _ ⟨rfl,rfl⟩
   refine .assign (.z (.seq (.sr (.move ?_))))
   refine .eqi ?_
   refine .z ?_
   refine .condT rfl rfl ?_
   refine .dr ([pt bp (.cells #[.pointer (some ⟨pp,0,none⟩)] 30 (0,0)),pt pp (jy f dn st (.slice (some ⟨g0,0,none⟩) (l0++[(⟨s,base,bs⟩:Seg)]).length c0))]) [10] 11 mixed .autoJ ?_
   refine .tk 0 rfl (.ld sc30) ?_
   refine .tk 1 rfl (.ld sc30) ?_
   refine .tk 2 rfl .nilCheck ?_
   refine .tk 3 rfl (.fa eu) ?_
   refine .tk 4 rfl (.ld sc82) ?_
   refine .tk 5 rfl .move ?_
   refine .on 6 rfl fun hnp=>?_
   refine .buildS (fun b56=>?_) (bsPS _)
   refine .nil (.wa hnp ?_)
   refine .on 7 rfl fun hnp=>?_
   refine .to (A:=buf g0 86 c0 ((l0++[(⟨s,base,bs⟩:Seg)]).map Seg.ptr)) (dj hc2) ?_
   rw [List.length_map]
   refine .append (v:=.slice (some ⟨g0,0,none⟩) (l0++[(⟨s,base,bs⟩:Seg)]).length c0) (m:=1) (k:=(l0++[(⟨s,base,bs⟩:Seg)]).length) (xs:=((l0++[(⟨s,base,bs⟩:Seg)]).map Seg.ptr)) (news:=[.pointer (some ⟨s2,0,none⟩)]) so82 (by decide) (by repeat (first | exact .here | apply Rem.there | apply Repl.there | apply Mem.there)) (Reads.pt (cs:=#[.pointer (some ⟨s2,0,none⟩)])) (by repeat (first | exact .here | apply Rem.there | apply Repl.there | apply Mem.there)) rfl (vm _ (fun v hv=>⟨s2,List.mem_singleton.1 hv⟩)) (by unfold maxLen;omega) (by omega) ⟨_,z86,rfl⟩ (fun v' hv'=>?_)
   refine .toE (A:=rowR 86 1 v' ((l0++[(⟨s,base,bs⟩:Seg)]).length+1) (((l0++[(⟨s,base,bs⟩:Seg)]).map Seg.ptr)++[.pointer (some ⟨s2,0,none⟩)])) (bw (fun h=>by have:=(hv'.1 h).1;cases this)) ?_
   rintro ⟨g2,q2⟩ ⟨rfl,h2a,h2b,_⟩
   rw [show ((l0++[(⟨s,base,bs⟩:Seg)]).map Seg.ptr)++[.pointer (some ⟨s2,0,none⟩)]=[]++((l0++[(⟨s,base,bs⟩:Seg)])++[(⟨s2,nb,[]++[b]⟩:Seg)]).map Seg.ptr by rw [List.map_append (l₂:=[(⟨s2,nb,[]++[b]⟩:Seg)])];rfl,show (l0++[(⟨s,base,bs⟩:Seg)]).length+1=((l0++[(⟨s,base,bs⟩:Seg)])++[(⟨s2,nb,[]++[b]⟩:Seg)]).length by rw [List.length_append (bs:=[(⟨s2,nb,[]++[b]⟩:Seg)])];rfl]
   refine .nil (.wa hnp ?_)
   refine .on 8 rfl fun hnp=>?_
   refine .nilCheck ?_
   refine .nil (.wa hnp ?_)
   refine .tk 9 rfl (.fa eu) ?_
   refine .on 10 rfl fun hnp=>?_
   refine .st ?_ sc82
   refine .nil (.wb hnp ?_)
   refine .fin ?_
   refine .next (.sr (.move (.assign (.z (.ret (?_))))))
   refine .to (A:=segsH f dn (l0++[(⟨s,base,bs⟩:Seg)])) (A':=segsH f dn ((l0++[(⟨s,base,bs⟩:Seg)])++[])) (fun h hh=>by rw [List.append_nil];exact hh) ?_
   refine .segIn (l0++[(⟨s,base,bs⟩:Seg)]) [] (⟨s2,nb,[]++[b]⟩:Seg) ?_
   refine .shutR (PT.opens pp f dn st [] (pre++[(base,bs)]++[(nb,[b])])) (g2,q2,(l0++[(⟨s,base,bs⟩:Seg)])++[(⟨s2,nb,[]++[b]⟩:Seg)]) ⟨by rw [List.map_append,List.map_append,hl0];rfl,by simp only [List.length_append,List.length_singleton,List.length_nil] at h2a ⊢;omega,h2b,by simp only [List.length_append,List.length_singleton] at hlen hflen ⊢;omega⟩ ?_
   refine .shutR (bun.opens [pt bp (.cells #[.pointer (some ⟨pp,0,none⟩)] 30 (0,0)),pt bX (.cells #[.slice (some ⟨gx,0,none⟩) (batB b).length qx] 79 (0,0)),pt bb (.cells (b.v (.slice (some A) b.recs.length cb)).toArray 44 (0,0)),pt bn (.cells #[.int .i64 ((nb:Nat):Int)] 3 (0,0)),PT pp f dn st [] (pre++[(base,bs)]++[(nb,[b])]),R]) () trivial ?_
   exact .ret1 (h1:=.tmp (t:=4) rfl) ⟨_,⟨rfl,rfl⟩,Am.auto⟩
theorem t6 {pp f N base nb c:Nat} {dn:aa} {st:Sts} {p:Pl} {pre:List SegA} {bs:List Bt} {A:Addr} {R:HP} {prod seq:Int} {l:List Rc} (hp:PlP p) (hf:FitsP p N (pre++[(base,bs)])) (hN1:N+1<=200) (hN2:N+4<=p.ino) (hN3:pre.length<=55) (hdn:dn.length<=900) (hR:Reads R (some A) (l.flatMap Rc.v)) (hpos:0 < l.length) (hll:l.length<=10000) (hE:batE (aq ((nb:Nat):Int) prod seq l)=0) (hnx:((nb:Nat):Int)=i3 ((base:Nat):Int) bs) (hbs:∀ y∈(pre++[(base,bs)]),y.1<=1125899906842624/\(bs≠[]->((y.1:Nat):Int) < ((nb:Nat):Int))) (hrows:bs.length<=9999) (hsz:(bs.flatMap batB).length<=60000):Spec Tryz.prog 16 #[.pointer (some ⟨pp,0,none⟩),.int .i64 prod,.int .i64 seq,.slice (some A) l.length c] [PT pp f dn st [] (pre++[(base,bs)]),DRF f p dn N (pre++[(base,bs)]),R] fun F v M=>v=.tuple #[.int .i64 ((nb:Nat):Int),.int .i64 0]/\M=PT pp f dn st [] (addP st.seg pre base bs (aq ((nb:Nat):Int) prod seq l)) :: DRF f p dn (addN st.seg bs (aq ((nb:Nat):Int) prod seq l) N) (addP st.seg pre base bs (aq ((nb:Nat):Int) prod seq l)) :: R :: F:=by
 refine Spec.intro Tryz.func16 rfl rfl fun B F=>?_
 simp only [Tryz.ntmps16,List.cons_append,List.nil_append,env0,Nat.reduceAdd]
 have hrl:(aq ((nb:Nat):Int) prod seq l).recs.length=l.length:=ji l 0
 refine .openR (PT.opens pp f dn st [] (pre++[(base,bs)])) fun x hx=>?_
 obtain ⟨g0,c0,ls⟩:=x
 obtain ⟨hls,hc1,hc2,hn2⟩:=hx
 simp only [ptLs,List.cons_append,List.nil_append] at hls hc1 hc2 hn2 ⊢
 have hn:0 < ls.length:=by have:=congrArg List.length hls;rw [List.length_map] at this;simp at this;omega
 refine .sr ?_
 refine .box fun b4=>?_
 refine .assign (.assign (.z (.seq (.sr ?_))))
 refine .ld ?_ sc30
 refine .call (hc:=Tryz.call38) (sp:=ie hn hn2) (h:=?_)
 rintro _ _ ⟨rfl,rfl⟩
 refine .not ?_
 refine .z ?_
 refine .condF rfl rfl ?_
 refine .skip (.next (.sr ?_))
 refine .ld ?_ sc30
 refine .shutR (PT.opens pp f dn st [] (pre++[(base,bs)])) (g0,c0,ls) ⟨hls,hc1,hc2,hn2⟩ ?_
 refine .call (hc:=Tryz.call18) (sp:=oy (pp:=pp) (f:=f) (dn:=dn) (st:=st) (dp:=[]) (ss:=(pre++[(base,bs)])) (pre:=pre) (y:=(base,bs)) rfl (by show bs.length<=_;omega)) (h:=?_)
 rintro _ _ ⟨rfl,rfl⟩
 rw [show i3 (((base,bs):SegA).1:Int) ((base,bs):SegA).2=((nb:Nat):Int) from hnx.symm]
 refine .alloc z3 fun b10=>?_
 refine .st ?_ sc3
 refine .x ?_
 refine .ld ?_ sc3
 refine .move (.move (.move ?_))
 refine .call (hc:=Tryz.call39) (sp:=L7 (base:=((nb:Nat):Int)) (prod:=prod) (seq:=seq) hR hpos hll) (h:=?_)
 rintro _ _ (⟨h0,_,_⟩ | ⟨_,gb,c2,qb,rfl,rfl⟩)
 ·exact absurd hE h0
 refine .move ?_
 refine .extract (.extract ?_)
 refine .alloc z44 fun b11=>?_
 refine .stV ?_ ex
 refine .assign (.z (.seq (.sr (.move ?_))))
 refine .nei ?_
 refine .z ?_
 refine .condF rfl rfl ?_
 refine .skip (.next (.sr ?_))
 refine .ldA ?_ ex
 refine .call (hc:=Tryz.call40) (sp:=tq (b:=(aq ((nb:Nat):Int) prod seq l)) (R:=buf gb 95 qb (aq ((nb:Nat):Int) prod seq l).rv) (A:=some ⟨gb,0,none⟩) (c:=c2) Reads.buf (by rw [hrl];omega)) (h:=?_)
 rintro _ _ (⟨h0,_,_⟩ | ⟨_,gx,qx,⟨rfl,hx1,hx2⟩,rfl⟩)
 ·exact absurd hE h0
 refine .move ?_
 refine .extract (.extract ?_)
 refine .alloc z79 fun b13=>?_
 refine .st ?_ sc79
 refine .assign (.x ?_)
 clear hls hc1 hc2 hn hn2
 refine .openR (PT.opens pp f dn st [] (pre++[(base,bs)])) fun x hx=>?_
 obtain ⟨g0,c0,ls⟩:=x
 obtain ⟨hls,hc1,hc2,hn2⟩:=hx
 simp only [ptLs,List.cons_append,List.nil_append] at hls hc1 hc2 hn2 ⊢
 refine .ld ?_ sc30
 refine .nilCheck ?_
 refine .fa ?_ vh
 refine .ld ?_ sc29
 refine .makeFuncB ?_
 refine .shutR (PT.opens pp f dn st [] (pre++[(base,bs)])) (g0,c0,ls) ⟨hls,hc1,hc2,hn2⟩ ?_
 refine .shutR (bun.opens [pt b4 (.cells #[.pointer (some ⟨pp,0,none⟩)] 30 (0,0)),pt b13 (.cells #[.slice (some ⟨gx,0,none⟩) (batB (aq ((nb:Nat):Int) prod seq l)).length qx] 79 (0,0)),pt b11 (.cells ((aq ((nb:Nat):Int) prod seq l).v (.slice (some ⟨gb,0,none⟩) (aq ((nb:Nat):Int) prod seq l).recs.length c2)).toArray 44 (0,0)),pt b10 (.cells #[.int .i64 ((nb:Nat):Int)] 3 (0,0)),PT pp f dn st [] (pre++[(base,bs)]),buf gb 95 qb (aq ((nb:Nat):Int) prod seq l).rv]) () trivial ?_
 refine .call (hc:=Tryz.call41) (sp:=Ei (N':=addN st.seg bs (aq ((nb:Nat):Int) prod seq l) N) (W:=49) (ss:=(pre++[(base,bs)])) (ss':=(addP st.seg pre base bs (aq ((nb:Nat):Int) prod seq l))) hp.ok (hc:=Tryz.call42) (fun F0=>L8 (R:=buf gb 95 qb (aq ((nb:Nat):Int) prod seq l).rv) (A:=⟨gb,0,none⟩) (b:=(aq ((nb:Nat):Int) prod seq l)) (cb:=c2) hp hf hN1 hN2 hN3 hdn Reads.buf hE (by rw [hrl];omega) rfl hnx hbs hrows hsz)) (h:=?_)
 rintro _ _ ⟨rfl,rfl⟩
 refine .openR (bun.opens _) fun _ _=>?_
 simp only [List.cons_append,List.nil_append]
 refine .assign (.z (.seq (.sr (.move ?_))))
 refine .nei ?_
 refine .z ?_
 refine .condF rfl rfl ?_
 refine .skip (.next (.sr ?_))
 refine .ld ?_ sc3
 refine .assign (.assign (.z (.ret (?_))))
 exact .ret2 (h1:=.tmp (t:=8) rfl) (h2:=.tmp (t:=9) rfl) ⟨_,⟨rfl,rfl⟩,Am.auto⟩
theorem vn {pp f N base nb c:Nat} {dn:aa} {st:Sts} {p:Pl} {pre:List SegA} {bs:List Bt} {A:Addr} {R:HP} {prod seq:Int} {l:List Rc} (hp:PlP p) (hf:FitsP p N (pre++[(base,bs)])) (hN1:N+1<=200) (hN2:N+4<=p.ino) (hN3:pre.length<=55) (hdn:dn.length<=900) (hR:Reads R (some A) (l.flatMap Rc.v)) (hpos:0 < l.length) (hll:l.length<=10000) (hE:batE (aq ((nb:Nat):Int) prod seq l)=0) (hnx:((nb:Nat):Int)=i3 ((base:Nat):Int) bs) (hbs:∀ y∈(pre++[(base,bs)]),y.1<=1125899906842624/\(bs≠[]->((y.1:Nat):Int) < ((nb:Nat):Int))) (hrows:bs.length<=9999) (hsz:(bs.flatMap batB).length<=60000):Spec Tryz.prog 16 #[.pointer (some ⟨pp,0,none⟩),.int .i64 prod,.int .i64 seq,.slice (some A) l.length c] [PT pp f dn st [] (pre++[(base,bs)]),DRF f p dn N (pre++[(base,bs)]),R] fun F v M=>v=.tuple #[.int .i64 ((nb:Nat):Int),.int .i64 0]/\M=PT pp f dn st [] (addP st.seg pre base bs (aq ((nb:Nat):Int) prod seq l)) :: DRF f p dn (N+1) (addP st.seg pre base bs (aq ((nb:Nat):Int) prod seq l)) :: R :: F :=
 Spec.post' (t6 hp hf hN1 hN2 hN3 hdn hR hpos hll hE hnx hbs hrows hsz) fun F v M B w ⟨h1,h2⟩ hs=>by
  subst h2
  exact ⟨_,⟨h1,rfl⟩,Sat.front (.there .here) (DRF.up Pu (Sat.front (.there .here) hs))⟩
theorem L9 {f:Nat} {base:Int} {path:aa} {H:HP} (hb:0<=base/\base<=1125899906842624)
  (hRd:Spec Tryz.prog 116 #[.pointer (some ⟨f,0,none⟩),sv path,nI 0,nI 70656] [H] fun F v M=>∃ u,v=.tuple #[u,.int .i64 0]/\M=rowR 5 1 u 0 [] :: H :: F):Spec Tryz.prog 63 #[.pointer (some ⟨f,0,none⟩),sv path,.int .i64 base] [H]
  fun F v M=>∃ s,v=.tuple #[.pointer (some ⟨s,0,none⟩),.int .i64 0]/\M=SGP s f path base [] :: H :: F:=by
 refine Spec.intro Tryz.func63 rfl rfl fun B F=>?_
 simp only [Tryz.ntmps63,List.cons_append,List.nil_append,env0,Nat.reduceAdd]
 refine .sr (.assign (.assign (.z (.scope (.seq (.sr (.move ?_)))))))
 refine .call (hc:=Tryz.call99) (sp:=Nc) (h:=?_)
 rintro _ _ ⟨rfl,rfl⟩
 refine .cast (d:=16) (u:=.bool true) rfl (cB9 (by simp [hb.1,hb.2])) ?_
 refine .not ?_
 refine .z ?_
 refine .condF rfl rfl ?_
 refine .skip (.next (.sr (.move (.move ?_))))
 refine .call (hc:=Tryz.call116) (sp:=hRd) (h:=?_)
 rintro _ _ ⟨u0,rfl,rfl⟩
 refine .fact (ag (el:=5) (size:=1) (k:=0) (v:=u0) (xs:=[])) fun ⟨A0,c0,hu0,_,_,_,_⟩=>?_
 subst hu0
 refine .move ?_
 refine .extract (.extract ?_)
 refine .assign (.assign (.z (.seq (.sr (.move ?_)))))
 refine .nei ?_
 refine .z ?_
 refine .condF rfl rfl ?_
 refine .skip (.next (.sr (.move (.move (.move ?_)))))
 refine .build ?_ (Sh _ _ _)
 refine .box fun b31=>?_
 refine .assign (.z (.seq (.label (.next (.seq (.block ?_))))))
 refine .loopN 1 (RC.succ ?_)
 refine .seq (.sr (.move (.nilCheck ?_)))
 refine .fa ?_ tr
 refine .ld ?_ sc3
 refine .move ?_
 refine .lenS ?_ sl79
 refine .lss ?_
 refine .z ?_
 refine .condF rfl rfl ?_
 refine .exit (.thenExit (.thenExit (.blockExit (?_))))
 refine .next (.seq (.sr (.move (.nilCheck ?_))))
 refine .fa ?_ tr
 refine .ld ?_ sc3
 refine .move ?_
 refine .lenS ?_ sl79
 refine .lss ?_
 refine .z ?_
 refine .condF rfl rfl ?_
 refine .skip (.next (.sr (.move (.assign (.assign (.z ?_))))))
 refine .ret (.scopeRet (?_))
 refine .emp (A:=rowR 151 6 (.slice none 0 0) ([]:List SRow).length (([]:List SRow).flatMap SRow.v)) (rowR.nil _) ?_
 refine .emp (A:=frz []) rq ?_
 refine .shutR (SGP.opens b31 f path base []) ([],.slice none 0 0,[]) ⟨rfl,fun x h=>absurd h List.not_mem_nil,fun x h=>absurd h List.not_mem_nil,fun i j x y _ h=>by simp at h,fun _=>rfl⟩ ?_
 exact .ret2 (h1:=.tmp (t:=6) rfl) (h2:=.tmp (t:=7) rfl) ⟨_,⟨_,rfl,rfl⟩,Am.auto⟩
theorem z29 :ax Tryz.prog 29=some (#[.pointer none]):=by kernel_rfl
theorem Pv :ad Tryz.prog 133 1 1=true:=by kernel_rfl
theorem Iq {p:Pl} (h:PlIs p):Room (fmtB p [245]):=by
 have h1:=gy (fmtD [245] p.im ((p.ino+4095) / 4096)) p.bm ((p.dc+4095) / 4096)
 have h2:=gy [245] p.im ((p.ino+4095) / 4096)
 have h3:=h.i2
 have h4:=h.n2
 have h5:=h.dc
 have h6:=h.i1
 have h7:=h.da
 have h8:=h.m1
 have h9:=h.bm
 unfold fmtB Room
 have:([245]:List Nat).length=1:=rfl
 omega
theorem bsF5 (f0 f1 f2 f3 f4:Fn) (u0 u1 u2 u3 u4 c0 c1 c2 c3 c4:Array Value):az Tryz.prog 136 5 [(0,.func f0 u0 c0),(1,.func f1 u1 c1),(2,.func f2 u2 c2),(3,.func f3 u3 c3),(4,.func f4 u4 c4)] 92 #[.func f0 u0 c0,.func f1 u1 c1,.func f2 u2 c2,.func f3 u3 c3,.func f4 u4 c4]:=fun w=>by kernel_rfl
def J0 :JS:=⟨bo (seg (cz ew 0) 8 8 false),0,[],cz ew⟩
theorem J0_ok {n:Nat}:HeadsOk n J0:=⟨ux,rfl,fun i _=>.inl (uz _ i),fun _=>rfl,fun h=>absurd rfl h⟩
theorem Sq :J0.gen < 2 ^ 64:=Fz _ _ _
theorem Ir {k:Nat} (h:245<=k):J0.view k=zeros:=uy (by omega)
theorem Sr {n d:Nat} (hn:n<=65536):Tagged n d d J0:=⟨rfl,J0_ok,Nat.lt_of_le_of_lt (Nat.le_refl 1) (by decide),Sq,hn⟩
theorem Ma {d n t:Nat} {cur:Nat->aa} (hn:246<=n) (hmg:(cur 0).take 8≠dw):Spec Tryz.prog 83 #[.pointer (some ⟨d,0,none⟩)] [DevR d n cur t] fun F v M=>v=.tuple #[.pointer none,.int .i64 10]/\M=DevR d n cur t :: F:=by
 refine Spec.intro Tryz.func83 rfl rfl fun B F=>?_
 simp only [Tryz.ntmps83,List.cons_append,List.nil_append,env0,Nat.reduceAdd]
 refine .sr (.assign (.assign (.z (.seq (.sr (.move ?_))))))
 refine .call (hc:=Tryz.call73) (sp:=e8 (n:=n) (t:=t) (cur:=cur)) (h:=?_)
 rintro _ _ ⟨rfl,rfl⟩
 refine .lss ?_
 refine .z ?_
 refine .condF rfl (cB9 (by first|simp;done|simp;omega|omega)) ?_
 refine .skip (.next (.sr (.move ?_)))
 refine .call (hc:=Tryz.call146) (sp:=Bu (n:=n) (t:=t) (cur:=cur) (by omega)) (h:=?_)
 rintro _ _ ⟨rfl,rfl⟩
 refine .move ?_
 refine .extract (.extract ?_)
 refine .cast (d:=20) (u:=.bool false) rfl (cB9 (decide_eq_false hmg)) ?_
 refine .assign (.assign (.z (.seq (.sr (.move ?_)))))
 refine .not ?_
 refine .z ?_
 refine .condT rfl rfl ?_
 refine .sr (.assign (.assign (.z ?_)))
 refine .ret (.thenRet (?_))
 exact .ret2 (h1:=.tmp (t:=2) rfl) (h2:=.tmp (t:=3) rfl) ⟨_,⟨rfl,rfl⟩,Am.auto⟩
theorem Is :(ew 0).take 8≠dw:=by
 show zeros.take 8≠dw
 rw [pk];decide
theorem Mb {d n:Nat} (hn:246<=n) (hn2:n<=65536):Spec Tryz.prog 74 #[.pointer (some ⟨d,0,none⟩)] [DevR d n ew 0] fun F v M=>∃ j,v=.tuple #[.pointer (some ⟨j,0,none⟩),.int .i64 0]/\M=JR j d n J0 :: F:=by
 refine Spec.intro Tryz.func74 rfl rfl fun B F=>?_
 simp only [Tryz.ntmps74,List.cons_append,List.nil_append,env0,Nat.reduceAdd]
 refine .sr (.assign (.assign (.x (.move ?_))))
 refine .call (hc:=Tryz.call83) (sp:=Ma (n:=n) (t:=0) (cur:=ew) hn Is) (h:=?_)
 rintro _ _ ⟨rfl,rfl⟩
 refine .move ?_
 refine .extract (.extract ?_)
 refine .assign (.assign (.z (.seq (.sr (.move ?_)))))
 refine .nei ?_
 refine .z ?_
 refine .condF rfl (cB9 (by first|simp;done|simp;omega|omega)) ?_
 refine .skip (.next (.seq (.sr (.move ?_))))
 refine .call (hc:=Tryz.call128) (sp:=N0 (n:=n) (t:=0) (cur:=ew) hn (by decide)) (h:=?_)
 rintro _ _ ⟨rfl,rfl⟩
 refine .assign (.x (.move ?_))
 refine .nei ?_
 refine .z ?_
 refine .condF rfl (cB9 (by first|simp;done|simp;omega|omega)) ?_
 refine .skip (.next (.sr (.move ?_)))
 refine .call (hc:=Tryz.call83) (sp:=jOpen (n:=n) (cur:=cz ew) hn hn2 ux (fun i _=>uz _ i)) (h:=?_)
 rintro _ _ ⟨j,rfl,rfl⟩
 refine .extract (.extract (.assign (.assign (.z (.ret (?_))))))
 exact .ret2 (h1:=.tmp (t:=2) rfl) (h2:=.tmp (t:=3) rfl) ⟨_,⟨j,rfl,rfl⟩,Am.auto⟩
theorem fsMk1 {f s a c mp b8 b5:Nat} {p:Pl} {V0 V:Nat->aa} (h:PlIs p) (hn:246<=p.n):Spec Tryz.prog 77 #[.pointer (some ⟨b8,0,none⟩),.pointer (some ⟨b5,0,none⟩)] [pt b8 (.cells #[.pointer (some ⟨f,0,none⟩)] 29 (0,0)),pt f (fO c a s false false false mp),pt b5 (.cells p.cells 121 (0,0)),TR c p.n V0 V [] true] fun F v M=>v=okV/\M=pt b8 (.cells #[.pointer (some ⟨f,0,none⟩)] 29 (0,0)) :: pt f (fO c a s false false false mp) :: pt b5 (.cells p.cells 121 (0,0)) :: TR c p.n V0 (wr V 245 (supB p)) [245] true :: F:=by
 refine Spec.intro Tryz.func77 rfl rfl fun B F=>?_
 simp only [Tryz.ntmps77,List.cons_append,List.nil_append,env0,Nat.reduceAdd]
 refine .sr (.assign (.z (.seq ?_)))
 refine .dr ([pt b8 (.cells #[.pointer (some ⟨f,0,none⟩)] 29 (0,0)),pt f (fO c a s false false false mp),pt b5 (.cells p.cells 121 (0,0))]) [] 8 mixed .autoJ ?_
 refine .tk 0 rfl (.ld sc29) ?_
 refine .tk 1 rfl .nilCheck ?_
 refine .tk 2 rfl (.fa ep) ?_
 refine .tk 3 rfl (.ld cx) ?_
 refine .tk 4 rfl (.ldA ga) ?_
 refine .on 5 rfl fun hnp=>?_
 refine .call (hc:=Tryz.call79) (sp:=M7 h) (h:=?_)
 rintro _ _ ⟨gb,q,rfl,⟨hq1,hq2⟩,rfl⟩
 refine .nil (.wa hnp ?_)
 refine .on 6 rfl fun hnp=>?_
 refine .call (hc:=Tryz.call78) (sp:=ma (c:=c) (n:=p.n) (k:=245) (V0:=V0) (V:=V) (D:=[]) (R:=buf gb 5 q (bvs (supB p))) (xs:=supB p) (by decide) (by omega) Reads.buf (ni p) rfl (.inr (by decide))) (h:=?_)
 rintro _ _ ⟨rfl,rfl⟩
 refine .nil (.wa hnp ?_)
 refine .tk 7 rfl .assign ?_
 refine .fin ?_
 refine .next (.ret (?_))
 exact .ret1 (h1:=.tmp (t:=2) rfl) ⟨_,⟨rfl,rfl⟩,Am.auto⟩
theorem Ss {d:Nat} {p:Pl} (h:PlIs p):Spec Tryz.prog 36 #[.pointer (some ⟨d,0,none⟩),.int .i64 (p.ino:Int)] [DevR d p.n ew 0] fun F v M=>∃ J,v=okV/\DevOk p.n (mkW p) J/\M=DevR d p.n J.cur 0 :: F:=by
 refine Spec.intro Tryz.func36 rfl rfl fun B F=>?_
 simp only [Tryz.ntmps36,List.cons_append,List.nil_append,env0,Nat.reduceAdd]
 have hn2:=h.n2
 have h246:246<=p.n:=by have:=h.bm;have:=h.m1;have:=h.da;have:=h.dc;have:=h.d1;omega
 refine .sr (.assign (.x (.move ?_)))
 refine .call (hc:=Tryz.call73) (sp:=e8 (n:=p.n) (t:=0) (cur:=ew)) (h:=?_)
 rintro _ _ ⟨rfl,rfl⟩
 refine .move ?_
 refine .call (hc:=Tryz.call72) (sp:=Gi h) (h:=?_)
 rintro _ _ ⟨rfl,rfl⟩
 refine .move ?_
 refine .extract (.extract ?_)
 refine .alloc z121 fun b5=>?_
 refine .stV ?_ ga
 refine .to (A:=pt b5 (.cells p.cells 121 (0,0))) (A':=pt b5 (.cells p.cells 121 (0,0))) (fun h hh=>hh) ?_
 refine .assign (.z (.seq (.sr (.move ?_))))
 refine .nei ?_
 refine .z ?_
 refine .condF rfl (cB9 (by first|simp;done|simp;omega|omega)) ?_
 refine .skip (.next (.sr (.move ?_)))
 refine .call (hc:=Tryz.call74) (sp:=Mb (n:=p.n) h246 hn2) (h:=?_)
 rintro _ _ ⟨j,rfl,rfl⟩
 refine .move ?_
 refine .extract (.extract ?_)
 refine .assign (.assign (.z (.seq (.sr (.move ?_)))))
 refine .nei ?_
 refine .z ?_
 refine .condF rfl (cB9 (by first|simp;done|simp;omega|omega)) ?_
 refine .skip (.next (.sr (.move ?_)))
 refine .ldA ?_ ga
 refine .call (hc:=Tryz.call75) (sp:=H0 (p:=p) (T:=fun _=>none) h246 hn2) (h:=?_)
 rintro _ _ ⟨f,c,a,s,mp,rfl,rfl⟩
 simp only [List.cons_append,List.nil_append]
 refine .shutR (TR.opens c p.n (tagV d) ew [] false) (j,d,⟨J0,[],false,false⟩) ⟨rfl,(fun k h1 h2=>(Ir h1).trans (H2 h1).symm),(fun k h1 h2=>Ir h1),rfl,fun r hr=>(by rw [Cs] at hr;injection hr with hr;subst hr;exact Sr hn2),fun h=>(by cases h)⟩ ?_
 refine .alloc z29 fun b8=>?_
 refine .st ?_ sc29
 refine .z (.seq (.seq ?_))
 refine .dr ([pt b8 (.cells #[.pointer (some ⟨f,0,none⟩)] 29 (0,0)),pt f (fO c a s false false false mp)]) [] 24 mixed .autoJ ?_
 refine .tk 0 rfl (.ld sc29) ?_
 refine .tk 1 rfl .nilCheck ?_
 refine .tk 2 rfl (.fa ep) ?_
 refine .tk 3 rfl (.ld cx) ?_
 refine .tk 4 rfl .makeFuncB ?_
 refine .tk 5 rfl .makeFuncB ?_
 refine .tk 6 rfl (.ld sc29) ?_
 refine .tk 7 rfl .nilCheck ?_
 refine .tk 8 rfl (.fa Pv) ?_
 refine .tk 9 rfl (.ld iw) ?_
 refine .tk 10 rfl .makeFuncB ?_
 refine .tk 11 rfl (.ld sc29) ?_
 refine .tk 12 rfl .nilCheck ?_
 refine .tk 13 rfl (.fa df) ?_
 refine .tk 14 rfl (.ld jf) ?_
 refine .tk 15 rfl .makeFuncB ?_
 refine .tk 16 rfl (.ld sc29) ?_
 refine .tk 17 rfl .nilCheck ?_
 refine .tk 18 rfl (.fa ep) ?_
 refine .tk 19 rfl (.ld cx) ?_
 refine .tk 20 rfl .makeFuncB ?_
 refine .tk 23 rfl .move ?_
 refine .on 21 rfl fun hnp=>?_
 refine .buildS (fun b54=>?_) (bsF5 _ _ _ _ _ _ _ _ _ _ _ _ _ _ _)
 refine .nil (.wa hnp ?_)
 refine .tk 22 rfl (.lenS Qd) ?_
 refine .fin ?_
 refine .next (.block ?_)
 refine .loopN 6 (RC.succ ?_)
 refine .sr ?_
 refine .lss ?_
 refine .z (.seq ?_)
 refine .condT rfl (cB9 (by first|simp;done|simp;omega|omega)) ?_
 refine .skip (.next (.seq (.block (.sr ?_))))
 refine .idx1 ?_ mw
 refine .ld ?_ sc92
 refine .assign (.x (.move ?_))
 refine .callF (us:=#[.pointer (some ⟨c,0,none⟩)]) (cap:=#[]) (vs:=[]) rfl rfl Tryz.call76 (Spec.bound (Mv (n:=p.n) (V0:=tagV d) (V:=ew) (D:=[]))) ?_ (by repeat (first | exact .nil | (apply Tk.cons;focus ((repeat (first | exact .here | apply Rem.there));done))))
 rintro _ _ ⟨rfl,rfl⟩
 refine .assign (.x (.move ?_))
 refine .nei ?_
 refine .z ?_
 refine .condF rfl (cB9 (by first|simp;done|simp;omega|omega)) ?_
 refine .skip (.blockNormal (.next (.region ?_)))
 refine .add ?_
 refine .move (.nil ?_)
 refine .again (RC.succ ?_)
 refine .sr ?_
 refine .lss ?_
 refine .z (.seq ?_)
 refine .condT rfl (cB9 (by first|simp;done|simp;omega|omega)) ?_
 refine .skip (.next (.seq (.block (.sr ?_))))
 refine .idx1 ?_ mw
 refine .ld ?_ sc92
 refine .assign (.x (.move ?_))
 refine .callF (us:=#[]) (cap:=#[.pointer (some ⟨b8,0,none⟩),.pointer (some ⟨b5,0,none⟩)]) (vs:=[]) rfl rfl Tryz.call77 (Spec.capt (fsMk1 (c:=c) (f:=f) (a:=a) (s:=s) (mp:=mp) (V0:=tagV d) (V:=ew) h h246)) ?_ (by repeat (first | exact .nil | (apply Tk.cons;focus ((repeat (first | exact .here | apply Rem.there));done))))
 rintro _ _ ⟨rfl,rfl⟩
 refine .assign (.x (.move ?_))
 refine .nei ?_
 refine .z ?_
 refine .condF rfl (cB9 (by first|simp;done|simp;omega|omega)) ?_
 refine .skip (.blockNormal (.next (.region ?_)))
 refine .add ?_
 refine .move (.nil ?_)
 refine .again (RC.succ ?_)
 refine .sr ?_
 refine .lss ?_
 refine .z (.seq ?_)
 refine .condT rfl (cB9 (by first|simp;done|simp;omega|omega)) ?_
 refine .skip (.next (.seq (.block (.sr ?_))))
 refine .idx1 ?_ mw
 refine .ld ?_ sc92
 refine .assign (.x (.move ?_))
 refine .callF (us:=#[.pointer (some ⟨a,0,none⟩)]) (cap:=#[]) (vs:=[]) rfl rfl Tryz.call80 (Spec.bound (Ke (c:=c) (V0:=tagV d) (V:=wr ew 245 (supB p)) (D:=[245]) h.ok (Nat.le_refl _))) ?_ (by repeat (first | exact .nil | (apply Tk.cons;focus ((repeat (first | exact .here | apply Rem.there));done))))
 rintro _ _ ⟨rfl,rfl⟩
 simp only [List.cons_append,List.nil_append]
 refine .assign (.x (.move ?_))
 refine .nei ?_
 refine .z ?_
 refine .condF rfl (cB9 (by first|simp;done|simp;omega|omega)) ?_
 refine .skip (.blockNormal (.next (.region ?_)))
 refine .add ?_
 refine .move (.nil ?_)
 refine .again (RC.succ ?_)
 refine .sr ?_
 refine .lss ?_
 refine .z (.seq ?_)
 refine .condT rfl (cB9 (by first|simp;done|simp;omega|omega)) ?_
 refine .skip (.next (.seq (.block (.sr ?_))))
 refine .idx1 ?_ mw
 refine .ld ?_ sc92
 refine .assign (.x (.move ?_))
 refine .callF (us:=#[.pointer (some ⟨s,0,none⟩)]) (cap:=#[]) (vs:=[]) rfl rfl Tryz.call81 (Spec.bound (Kq (c:=c) (a:=a) (V0:=tagV d) (V:=(fmtA p (wr ew 245 (supB p)))) (D:=fmtB p [245]) h.ok (Iq h))) ?_ (by repeat (first | exact .nil | (apply Tk.cons;focus ((repeat (first | exact .here | apply Rem.there));done))))
 rintro _ _ ⟨rfl,rfl⟩
 simp only [List.cons_append,List.nil_append]
 refine .assign (.x (.move ?_))
 refine .nei ?_
 refine .z ?_
 refine .condF rfl (cB9 (by first|simp;done|simp;omega|omega)) ?_
 refine .skip (.blockNormal (.next (.region ?_)))
 refine .add ?_
 refine .move (.nil ?_)
 refine .again (RC.succ ?_)
 refine .sr ?_
 refine .lss ?_
 refine .z (.seq ?_)
 refine .condT rfl (cB9 (by first|simp;done|simp;omega|omega)) ?_
 refine .skip (.next (.seq (.block (.sr ?_))))
 refine .idx1 ?_ mw
 refine .ld ?_ sc92
 refine .assign (.x (.move ?_))
 refine .callF (us:=#[.pointer (some ⟨c,0,none⟩)]) (cap:=#[]) (vs:=[]) rfl rfl Tryz.call82 (Spec.bound (Ln (n:=p.n) (d:=d) (V0:=tagV d) (V:=mkW p) (D:=insD (fmtB p [245]) (p.tb+0 / 8)) (Cs d) h246)) ?_ (by repeat (first | exact .nil | (apply Tk.cons;focus ((repeat (first | exact .here | apply Rem.there));done))))
 rintro _ _ ⟨J,rfl,hJ,rfl⟩
 refine .assign (.x (.move ?_))
 refine .nei ?_
 refine .z ?_
 refine .condF rfl (cB9 (by first|simp;done|simp;omega|omega)) ?_
 refine .skip (.blockNormal (.next (.region ?_)))
 refine .add ?_
 refine .move (.nil ?_)
 refine .again (RC.succ ?_)
 refine .sr ?_
 refine .lss ?_
 refine .z (.seq ?_)
 refine .condF rfl (cB9 (by first|simp;done|simp;omega|omega)) ?_
 refine .exit (.thenExit (.thenExit (.blockExit (?_))))
 refine .next (.sr (.assign (.z (.ret (?_)))))
 exact .ret1 (h1:=.tmp (t:=4) rfl) ⟨_,⟨J,rfl,hJ,rfl⟩,Am.auto⟩
theorem Pw {d:Nat} {p:Pl} {J:JS} {V:Nat->aa} {T:FT} (h:PlIs p) (hJ:DevOk p.n V J) (hsup:V 245=supB p) (hr:Rep p (cm0 V) (fmT T)):Spec Tryz.prog 37 #[.pointer (some ⟨d,0,none⟩)] [DevR d p.n J.cur 0] fun F v M=>∃ f,v=.tuple #[.pointer (some ⟨f,0,none⟩),.int .i64 0]/\M=FSR f p T :: F:=by
 refine Spec.intro Tryz.func37 rfl rfl fun B F=>?_
 simp only [Tryz.ntmps37,List.cons_append,List.nil_append,env0,Nat.reduceAdd]
 have hS:=hJ.settled
 have hn1:=hJ.n1
 have hn2:=hJ.n2
 have hv:=(hS.home 245 (by decide) (by omega)).trans hsup
 refine .sr (.assign (.assign (.x (.move ?_))))
 refine .call (hc:=Tryz.call83) (sp:=Qs (n:=p.n) (J:=J) hn1 hn2 hJ.ok hJ.last) (h:=?_)
 rintro _ _ ⟨j,rfl,rfl⟩
 refine .move ?_
 refine .extract (.extract ?_)
 refine .assign (.assign (.z (.seq (.sr (.move ?_)))))
 refine .nei ?_
 refine .z ?_
 refine .condF rfl (cB9 (by first|simp;done|simp;omega|omega)) ?_
 refine .skip (.next (.sr (.move ?_)))
 refine .call (hc:=Tryz.call84) (sp:=N2 (d:=d) (n:=p.n) (J:=J.settled) (k:=245) (by decide) (by omega)) (h:=?_)
 rintro _ _ ⟨gb,q,rfl,⟨hq1,hq2,hq3⟩,rfl⟩
 rw [hv]
 refine .move ?_
 refine .extract (.extract ?_)
 refine .assign (.assign (.z (.seq (.sr (.move ?_)))))
 refine .nei ?_
 refine .z ?_
 refine .condF rfl (cB9 (by first|simp;done|simp;omega|omega)) ?_
 refine .skip (.next (.sr (.move ?_)))
 refine .call (hc:=Tryz.call85) (sp:=R1 (R:=buf gb 5 q (bvs (supB p))) h Reads.buf) (h:=?_)
 rintro _ _ ⟨rfl,rfl⟩
 refine .move ?_
 refine .extract (.extract ?_)
 refine .alloc z121 fun b7=>?_
 refine .stV ?_ ga
 refine .to (A:=pt b7 (.cells p.cells 121 (0,0))) (A':=pt b7 (.cells p.cells 121 (0,0))) (fun h hh=>hh) ?_
 refine .assign (.z (.seq (.seq ?_)))
 refine .openR (JR.opens j d p.n J.settled) fun x hx=>?_
 simp only [jL,List.cons_append,List.nil_append]
 refine .dr ([pt b7 (.cells p.cells 121 (0,0))]) [] 9 mixed .autoJ ?_
 refine .tk 0 rfl .move ?_
 refine .tk 1 rfl .nei ?_
 refine .tk 2 rfl .move ?_
 refine .tn 3 rfl (.fa Hz) ?_
 refine .tn 4 rfl (.ld sc3) ?_
 refine .tn 5 rfl .move ?_
 refine .on 6 rfl fun hnp=>?_
 refine .gT ?_
 refine .call (hc:=Tryz.call73) (sp:=e8 (n:=p.n) (t:=0) (cur:=J.settled.cur)) (h:=?_)
 rintro _ _ ⟨rfl,rfl⟩
 refine .nil (.wa hnp ?_)
 refine .tn 7 rfl .nei ?_
 refine .tk 8 rfl .pickF ?_
 refine .fin ?_
 refine .next ?_
 refine .condF rfl (cB9 (by first|simp;done|simp;omega|omega)) ?_
 refine .skip (.next (.sr ?_))
 refine .shutR (JR.opens j d p.n J.settled) x hx ?_
 refine .move ?_
 refine .ldA ?_ ga
 refine .call (hc:=Tryz.call75) (sp:=H0 (p:=p) (T:=T) hn1 hn2) (h:=?_)
 rintro _ _ ⟨f,c,a,s,mp,rfl,rfl⟩
 simp only [List.cons_append,List.nil_append]
 refine .shutR (TR.opens c p.n (cm0 V) (cm0 V) [] false) (j,d,⟨J.settled,[],false,false⟩) ⟨rfl,(fun k h1 h2=>(hS.home k h1 h2).trans (qn V (by omega)).symm),(fun k h1 h2=>(hS.home k h1 h2).trans (qn V (by omega)).symm),rfl,fun r hr=>(by rw [Gd] at hr;cases hr),fun h=>(by cases h)⟩ ?_
 refine .shutR (IN.opens s a c p (fmT T) (fmT T) 0 false) (cm0 V,cm0 V,[]) ⟨hr,hr,Dk.nil p,Nat.zero_le _⟩ ?_
 refine .shutR (FSR.opens f p T) (c,a,s,mp) trivial ?_
 refine .assign (.assign (.z (.ret (?_))))
 exact .ret2 (h1:=.tmp (t:=2) rfl) (h2:=.tmp (t:=3) rfl) ⟨_,⟨f,rfl,rfl⟩,Am.auto⟩
theorem Eo {d:Nat} {p:Pl} {J:JS} (h:PlIs p) (hJ:DevOk p.n (mkW p) J):Spec Tryz.prog 37 #[.pointer (some ⟨d,0,none⟩)] [DevR d p.n J.cur 0] fun F v M=>∃ f,v=.tuple #[.pointer (some ⟨f,0,none⟩),.int .i64 0]/\M=FSR f p d9 :: F :=
 Pw h hJ (Pb h) (by rw [xg];exact Pd h)
theorem Nh :dh Tryz.prog 166 2=true:=by kernel_rfl
theorem Px :ad Tryz.prog 166 0 0=true:=by kernel_rfl
theorem t7 (l:List Ent):(l.flatMap entL).length=l.length * 2:=a7 (enc:=entL) (m:=2) jw l
theorem Mc {l:List Ent} {i:Nat} {x:Ent} (h:l[i]?=some x):(l.flatMap entL)[i * 2]?=some (sv x.1)/\(l.flatMap entL)[i * 2+1]?=some (nI x.2):=by
 induction l generalizing i with
 | nil=>cases h
 | cons a l ih =>
  rw [List.flatMap_cons]
  cases i with
  | zero =>
   injection h with h;subst h
   exact ⟨rfl,rfl⟩
  | succ i =>
   have:=ih (i:=i) h
   rw [show (i+1) * 2=i * 2+2 from by omega]
   constructor
   ·rw [List.getElem?_append_right (by show 2<=_;omega)]
    show (l.flatMap entL)[i * 2+2 - 2]?=_
    rw [Nat.add_sub_cancel];exact this.1
   ·rw [List.getElem?_append_right (by show 2<=_;omega)]
    show (l.flatMap entL)[i * 2+2+1 - 2]?=_
    rw [show i * 2+2+1 - 2=i * 2+1 from by omega];exact this.2
theorem It {l:List Ent} {i:Nat} {x:Ent} (h:l[i]?=some x):((l.flatMap entL).drop (i * 2)).take 2=entL x:=by
 have h1:=Mc h
 refine List.ext_getElem? fun j=>?_
 rw [List.getElem?_take]
 split
 ·rename_i hj
  rw [List.getElem?_drop]
  rcases j with _ | _ | j
  ·exact h1.1
  ·exact h1.2
  ·omega
 ·rename_i hj
  rw [List.getElem?_eq_none (by show 2<=j;omega)]
theorem Bg {sl:List Slot} (hd:DirOk sl):((lc sl).map (·.1)).Nodup:=by
 unfold List.Nodup
 rw [List.pairwise_map]
 unfold lc
 rw [List.pairwise_filterMap]
 rw [List.pairwise_iff_getElem]
 intro i j hi hj hij x hx y hy hxy
 have hx:sl[i]=some x:=hx
 have hy:sl[j]=some y:=hy
 obtain ⟨n1,i1⟩:=x
 obtain ⟨n2,i2⟩:=y
 have hxy:n1=n2:=hxy
 subst hxy
 have:=hd.one i j n1 i1 i2 (by rw [List.getElem?_eq_getElem hi,hx]) (by rw [List.getElem?_eq_getElem hj,hy])
 omega
abbrev SortE (l:List Ent):Prop:=l.Pairwise fun x y=>¬ y.1 < x.1
theorem bsSn (a:ByteArray):az Tryz.prog 62 1 [(0,.string a)] 9 #[.string a]:=fun w=>by kernel_rfl
theorem Ep {α:Type} {l:List α} {k:Nat} (h:k < l.length):l.take (k+1)=l.take k++[l[k]]:=List.take_succ_eq_append_getElem h
theorem St {f:Nat} {p:Pl} {T:FT} {path:aa} (ho:PlOk p) (hT:TOk T) (hpl:path.length<=1000000) {i z:Nat} {sl:List Slot} (hl:fu T path=(i,2,z,0)) (hd:T i=some (.dir sl)):Spec Tryz.prog 59 #[.pointer (some ⟨f,0,none⟩),sv path] [FSR f p T] fun F v M=>∃ u l,v=.tuple #[u,.int .i64 0]/\((l:List Ent).Perm (lc sl)/\SortE l)/\M=rowR 9 1 u (l.map (·.1)).length (svs (l.map (·.1))) :: FSR f p T :: F:=by
 refine Spec.intro Tryz.func59 rfl rfl fun B F=>?_
 simp only [Tryz.ntmps59,List.cons_append,List.nil_append,env0,Nat.reduceAdd]
 refine .openR (FSR.opens f p T) fun y _=>?_
 obtain ⟨c,a,s,mp⟩:=y
 simp only [fsLs,List.cons_append,List.nil_append]
 have hto:=hT i sl hd
 refine .sr (.assign (.assign (.x (.move (.move ?_)))))
 refine .call (hc:=Tryz.call107) (sp:=xh (f:=f) (s:=s) (a:=a) (c:=c) (mp:=mp) (b:=false) (ov:=false) (dead:=false) (p:=p) (T:=T) (F0:=fmT T) (W:=0) (op:=false) (path:=path) ho hT hpl) (h:=?_)
 rintro _ _ ⟨rfl,rfl⟩
 rw [hl]
 refine .move ?_
 refine .extract (.extract (.extract ?_))
 refine .alloc z159 fun b7=>?_
 refine .assign ?_
 refine .stV ?_ cq
 refine .assign (.z (.seq (.sr (.move ?_))))
 refine .nei ?_
 refine .z ?_
 refine .condF rfl (cB9 (by first|simp;done|simp;omega|omega)) ?_
 refine .skip (.next (.sr (.move (.nilCheck ?_))))
 refine .fa ?_ df
 refine .ld ?_ jf
 refine .move ?_
 refine .call (hc:=Tryz.call108) (sp:=Oz (s:=s) (a:=a) (c:=c) (p:=p) (F0:=fmT T) (Fm:=fmT T) (W:=0) (d:=i) (op:=false) (sl:=sl) ho (bx hd) hto.1 (by omega)) (h:=?_)
 rintro _ _ ⟨u,l,rfl,⟨hlp,hls⟩,rfl⟩
 have hll:=hlp.length_eq
 have hle:=p9 (sl:=sl)
 refine .fact (ag (el:=166) (size:=2) (v:=u) (k:=l.length) (xs:=l.flatMap entL)) (fun ⟨A,cc,hu,hR0,hc1,hc2,hlen⟩=>?_)
 subst hu
 refine .move ?_
 refine .extract (.extract ?_)
 refine .assign (.assign (.z (.seq (.sr (.move ?_)))))
 refine .nei ?_
 refine .z ?_
 refine .condF rfl (cB9 (by first|simp;done|simp;omega|omega)) ?_
 refine .skip (.next (.sr (.assign ?_)))
 refine .emp (rowR.nil (e:=9) (size:=1) _) ?_
 refine .z (.seq (.sr (.move ?_)))
 refine .lenS ?_ O7
 refine .move (.z (.block ?_))
 refine .loopA (σ:=Nat×Value) (fun y=>[(10,y.2),(35,.slice A l.length cc),(36,.int .i64 (l.length:Int)),(37,.int .i64 ((y.1:Nat):Int))]) (fun y=>[rowR 9 1 y.2 y.1 (svs ((l.map (·.1)).take y.1)),rowR 166 2 (.slice A l.length cc) l.length (l.flatMap entL),pt f (fO c a s false false false mp),LD mp T,IN s a c p (fmT T) (fmT T) 0 false]++F) (fun y=>y.1<=l.length) (fun y=>l.length - y.1) (0,.slice none 0 0) (Nat.zero_le _) ?_
 rintro y hk
 obtain ⟨k,o⟩:=y
 simp only at hk ⊢
 refine .sr ?_
 refine .lss ?_
 refine .z (.seq ?_)
 refine .cond rfl (fun hb=>?_) (fun hb=>?_)
 ·have hlt:k < l.length:=by have h:(k:Int) < (l.length:Int):=of_decide_eq_true hb;omega
  rcases A with _ | ⟨ab,ao,asp⟩
  ·exact absurd (congrArg List.length (show l.flatMap entL=[] from hR0)) (by rw [t7,List.length_nil];omega)
  have hsp:asp=none:=hR0.1
  subst hsp
  have hlk:l[k]?=some l[k]:=List.getElem?_eq_getElem hlt
  have hml:(l.map (·.1)).length=l.length:=List.length_map ..
  refine .skip (.next (.seq (.block (.sr ?_))))
  refine .idx ?_ Rp
  refine .ldAR (i:=((k:Nat):Int).toNat * 2) (us:=entL l[k]) ?_ Nh hR0 (by rw [Int.toNat_natCast];exact It hlk) (by rw [t7,Int.toNat_natCast];omega)
  refine .alloc z166 fun b12=>?_
  refine .stV ?_ Nh
  refine .y (.move ?_)
  refine .fa ?_ Px
  refine .ld ?_ sc9
  refine .buildS (fun b44=>?_) (bsSn _)
  refine .append (m:=1) (news:=[sv l[k].1]) so62 (by decide) (by repeat (first | exact .here | apply Rem.there | apply Repl.there | apply Mem.there)) Reads.pt (by repeat (first | exact .here | apply Rem.there | apply Repl.there | apply Mem.there)) rfl (by intro x hx;simp only [List.mem_cons,List.not_mem_nil,or_false] at hx;subst hx;rfl) (by show k+1<=maxLen;unfold maxLen;omega) (by show (k+1) * _<=_;omega) ⟨_,z9,rfl⟩ (fun u2 hu2=>?_)
  refine .assign (.nil (.blockNormal (.next (.region ?_))))
  refine .add ?_
  refine .move (.nil ?_)
  refine .to (A:=rowR 9 1 u2 (k+1) (svs ((l.map (·.1)).take k)++[sv l[k].1])) (A':=rowR 9 1 u2 (k+1) (svs ((l.map (·.1)).take (k+1)))) (fun h hh=>by rw [Ep (by omega),List.getElem_map];unfold svs at hh ⊢;rw [List.map_append];exact hh) ?_
  refine .cast (d:=37) (u:=.int .i64 ((k+1:Nat):Int)) rfl (cI9 (by omega)) ?_
  exact .back (k+1,u2) (by show k+1<=l.length;omega) (by show l.length - (k+1) < l.length - k;omega)
 ·have hge:k=l.length:=by have h:¬ (k:Int) < (l.length:Int):=of_decide_eq_false hb;omega
  subst hge
  have hml:(l.map (·.1)).length=l.length:=List.length_map ..
  rw [List.take_of_length_le (Nat.le_of_eq hml)]
  refine .exit (.thenExit (.thenExit (.blockExit (?_))))
  refine .next (.sr (.move (.assign (.assign (.z ?_)))))
  refine .ret (?_)
  refine .shutR (FSR.opens f p T) (c,a,s,mp) trivial ?_
  exact .ret2 (h1:=.tmp (t:=4) rfl) (h2:=.tmp (t:=5) rfl) ⟨_,⟨o,l,rfl,⟨hlp,hls⟩,by rw [hml]⟩,Am.auto⟩
theorem uk :dh Tryz.prog 23 5=true:=by kernel_rfl
theorem Su {p:Pl} {dn:aa} (hdn:ap dn=true) (hi:2<=p.ino):DirF p dn 0 (mkT d9 0 [] dn 1 (.dir [])) [] []:=by
 have hs:setS ([]:List Slot) (d8 []) (some (dn,1))=[some (dn,1)]:=rfl
 have hat:∀ j,mkT d9 0 [] dn 1 (.dir []) j=if j=0 then some (.dir [some (dn,1)]) else if j=1 then some (.dir []) else none:=fun j=>by
  rw [vb,hs]
  by_cases h0:j=0
  ·rw [if_pos h0,if_pos h0]
  ·rw [if_neg h0,if_neg h0]
   by_cases h1:j=1
   ·rw [if_pos h1,if_pos h1]
   ·rw [if_neg h1,if_neg h1]
    unfold d9
    rw [if_neg h0]
 refine ⟨hdn,by rw [hat];rfl,by rw [hat];rfl,DirOk.nil,Nat.le_refl _,fun q nm i=>⟨fun h=>by simp at h,fun ⟨x,hx,_⟩=>by simp at hx⟩,fun x hx=>by simp at hx,fun j hj _=>by rw [hat,if_neg (by omega),if_neg (by omega)],fun x hx=>by simp at hx,List.Pairwise.nil,?_⟩
 have h1:=eo (fmT d9) (show 1 < p.ino by omega) (some (NodeT.dir []).f)
 rw [fm,lr (show d9 1=none from rfl)] at h1
 have h2:=eo (fmT (updT d9 1 (some (.dir [])))) (show 0 < p.ino by omega) (some (NodeT.dir [some (dn,1)]).f)
 rw [fm,bx (T:=updT d9 1 (some (.dir []))) (i:=0) (x:=.dir []) rfl] at h2
 have e0:hasO none=0:=rfl
 have e1:hasO (some (NodeT.dir []).f)=0:=by show has (dirB []).length=0;rw [a8];rfl
 have e2:hasO (some (NodeT.dir [some (dn,1)]).f)=1:=by
  have h64:has 64=1:=rfl
  show has (dirB [some (dn,1)]).length=1
  rw [a8]
  exact h64
 have e3:tot (fmT d9) p.ino=0:=by rw [xg];exact Cb _
 have e4:mkT d9 0 [] dn 1 (.dir [])=updT (updT d9 1 (some (.dir []))) 0 (some (.dir [some (dn,1)])):=by unfold mkT;rw [hs]
 have e5:has (64 * 0)=0:=rfl
 show tot (fmT (mkT d9 0 [] dn 1 (.dir []))) p.ino=1+has (64 * 0)+0
 rw [e4]
 omega
theorem Py {dn:aa} (hdn:ap dn=true):ce d9 (47 :: dn)=(0,dn,0):=by
 have hl:=an hdn
 unfold ce
 have hp:ey (47 :: dn)=some [dn]:=by
  unfold ey
  simp only [if_true]
  rw [if_neg (by intro h;rw [h] at hl;simp at hl),li hdn,if_neg (by simp)]
  rw [show [dn].all ap=true from by rw [List.all_cons,List.all_nil,hdn];rfl]
  rfl
 rw [hp]
 rfl
theorem Md {dn:aa} (hdn:ap dn=true):ey (47 :: dn)=some [dn]:=by
 have hl:=an hdn
 unfold ey
 simp only [if_true]
 rw [if_neg (by intro h;rw [h] at hl;simp at hl),li hdn,if_neg (by simp)]
 rw [show [dn].all ap=true from by rw [List.all_cons,List.all_nil,hdn];rfl]
 rfl
theorem DirF.leadsD {p:Pl} {dn:aa} {N:Nat} {T:FT} {sl:List Slot} {fl:List PF} (h:DirF p dn N T sl fl):fu T (47 :: dn)=(1,2,(NodeT.dir sl).size,0):=by
 unfold fu
 rw [Md h.dnm]
 have hw:db T 0 [dn]=(1,0):=by
  unfold db
  rw [h.findD]
  rfl
 show (if (db T 0 [dn]).2=0 then _ else _)=_
 rw [hw,if_pos rfl]
 show (match T 1 with | some y=>(1,y.kind,y.size,0) | none=>(1,0,0,4))=_
 rw [h.dir]
 rfl
theorem Me {α:Type} {l:List α} {a:α} (h1:a∈l) (h2:∀ x∈l,x=a) (h3:l.Nodup):l=[a]:=by
 match l,h1 with
 | [x],_=>rw [h2 x (List.mem_singleton.2 rfl)]
 | x :: y :: l,_ =>
  have e1:=h2 x (List.mem_cons_self ..)
  have e2:=h2 y (List.mem_cons_of_mem _ (List.mem_cons_self ..))
  rw [List.nodup_cons] at h3
  exact absurd (by rw [e1,e2];exact List.mem_cons_self ..) h3.1
theorem Iu {f:Nat} {p:Pl} {dn:aa} {N:Nat} {y:SegA} (hp:PlP p) (hf:FitsP p N [y]) :
  Spec Tryz.prog 59 #[.pointer (some ⟨f,0,none⟩),sv (47 :: dn)] [DRF f p dn N [y]] fun F v M=>∃ u,v=.tuple #[u,.int .i64 0]/\M=rowR 9 1 u 1 (svs [aw y.1]) :: DRF f p dn N [y] :: F:=by
 refine Spec.opens (DRF.opens f p dn N [y]) fun fl hfl=>?_
 refine Spec.opens (DR.opens f p dn N fl) fun z hd=>?_
 obtain ⟨T,sl⟩:=z
 have hd:DirF p dn N T sl fl:=hd
 have hN:=hf.n
 refine Spec.post' (St (f:=f) (p:=p) (T:=T) (path:=47 :: dn) (i:=1) (z:=(NodeT.dir sl).size) (sl:=sl) hp.ok (hd.tok (by omega)) (by have:=an hd.dnm;simp only [List.length_cons];omega) hd.leadsD hd.dir) ?_
 rintro F v M B w ⟨u,l,rfl,⟨hlp,_⟩,rfl⟩ hs
 obtain ⟨fa,x,fb,rfl,ha,⟨hxn,hxc⟩,hb⟩:=hfl.split (pre:=[]) (post:=[])
 have ha0:fa=[]:=by unfold FilesOf at ha;exact List.map_eq_nil_iff.1 ha
 have hb0:fb=[]:=by unfold FilesOf at hb;exact List.map_eq_nil_iff.1 hb
 subst ha0
 subst hb0
 have hnm:l.map (·.1)=[aw y.1]:=by
  refine Me ?_ ?_ ?_
  ·refine List.mem_map.2 ⟨(x.nm,x.i),hlp.mem_iff.2 (entsS_mem.2 ⟨x.q,(hd.slot _ _ _).2 ⟨x,List.mem_singleton.2 rfl,rfl,rfl,rfl⟩⟩),hxn⟩
  ·intro n hn
   obtain ⟨⟨nm,i⟩,hm,rfl⟩:=List.mem_map.1 hn
   obtain ⟨q,hq⟩:=entsS_mem.1 (hlp.mem_iff.1 hm)
   obtain ⟨x',hx',h1,h2,h3⟩:=(hd.slot _ _ _).1 hq
   rw [List.mem_singleton.1 hx'] at h2
   rw [<- hxn,h2]
  ·exact (hlp.map _).nodup_iff.2 (Bg hd.ok)
 rw [hnm] at hs
 refine ⟨_,⟨u,rfl,rfl⟩,Sat.front (.there .here) ?_⟩
 refine Sat.shuts (M:=rowR _ 1 u 1 (svs [aw y.1]) :: F) (DRF.opens f p dn N [y]) hfl ?_
 exact Sat.shuts (DR.opens f p dn N _) (x:=(T,sl)) hd (Sat.front (.there .here) hs)
theorem Sv {f:Nat} {p:Pl} {dn:aa} {N:Nat} {pre post:List SegA} {y:SegA} (hp:PlP p) (hf:FitsP p N (pre++y :: post)) (hc:(byt y).length<=70656) :
  Spec Tryz.prog 116 #[.pointer (some ⟨f,0,none⟩),sv (d3 dn (aw y.1)),nI 0,nI 70656] [DRF f p dn N (pre++y :: post)] fun F v M=>∃ u,v=.tuple #[u,.int .i64 0]/\M=rowR 5 1 u (byt y).length (bvs (byt y)) :: DRF f p dn N (pre++y :: post) :: F:=by
 refine Spec.opens (DRF.opens f p dn N _) fun fl hfl=>?_
 have hN:=hf.n
 obtain ⟨fa,x,fb,rfl,ha,⟨hxn,hxc⟩,hb⟩:=hfl.split
 have h:=Rx (f:=f) (p:=p) (dn:=dn) (N:=N) (fl:=fa++x :: fb) (x:=x) hp.ok (by omega) (List.mem_append_right _ (List.mem_cons_self ..)) (by rw [hxn,dt];decide) (by rw [hxc];exact hc)
 rw [hxn,hxc] at h
 refine Spec.post' h ?_
 rintro F v M B w ⟨u,rfl,rfl⟩ hs
 exact ⟨_,⟨u,rfl,rfl⟩,Sat.front (.there .here) (Sat.shuts (M:=rowR _ _ _ _ _ :: F) (DRF.opens f p dn N _) hfl (Sat.front (.there .here) hs))⟩
theorem Sw (f:Nat) (s:ByteArray) (a b c:Int) (d:Bool) (e:Int):bg Tryz.prog 84 [(0,.pointer (some ⟨f,0,none⟩)),(1,.string s),(2,.agg #[.int .i64 a,.int .i64 b,.int .i64 c,.bool d,.int .i64 e])] #[.pointer (some ⟨f,0,none⟩),.string s,.int .i64 a,.int .i64 b,.int .i64 c,.bool d,.int .i64 e,.slice none 0 0]:=fun w=>by kernel_rfl
theorem sufP (b:Nat):decide ((aw b).drop ((aw b).length - ([46,110,101,119]:aa).length)=([46,110,101,119]:aa))=false:=by
 refine decide_eq_false fun h=>?_
 have hd:(aw b).length - ([46,110,101,119]:aa).length=16:=by rw [dt];rfl
 rw [hd] at h
 have h1:((aw b).drop 16)[0]?=some 46:=by rw [h];rfl
 rw [List.getElem?_drop,xj (by decide)] at h1
 injection h1 with h1
 have h2:=ot b (19 - (16+0))
 have h3:=oq b (19 - (16+0))
 rw [h1] at h2
 have:(46:UInt8).toNat=46:=rfl
 omega
theorem Iv {f bf bd:Nat} {p:Pl} {dn:aa} (hp:PlP p) (hdn:ap dn=true) (hi:6<=p.ino):Spec Tryz.prog 58 #[.pointer (some ⟨bf,0,none⟩),.pointer (some ⟨bd,0,none⟩)] [FSB f p (fmT d9) d9 0,bun [pt bf (.cells #[.pointer (some ⟨f,0,none⟩)] 29 (0,0)),pt bd (.cells #[sv (47 :: dn)] 9 (0,0))]] fun F v M=>∃ y:FT×List Slot×List PF,(DirF p dn 1 y.1 y.2.1 y.2.2/\FilesOf y.2.2 [(0,[])])/\v=okV/\M=FSB f p (fmT d9) y.1 18 :: bun [pt bf (.cells #[.pointer (some ⟨f,0,none⟩)] 29 (0,0)),pt bd (.cells #[sv (47 :: dn)] 9 (0,0))] :: F:=by
 refine Spec.intro Tryz.func58 rfl rfl fun B F=>?_
 simp only [Tryz.ntmps58,List.cons_append,List.nil_append,env0,Nat.reduceAdd]
 refine .openR (bun.opens _) fun _ _=>?_
 simp only [List.cons_append,List.nil_append]
 have hdl:=an hdn
 have hdc:=hp.dc
 refine .sr (.assign (.z (.seq (.sr ?_))))
 refine .ld ?_ sc29
 refine .ld ?_ sc9
 refine .call (hc:=Tryz.call31) (sp:=Lf (f:=f) (p:=p) (T:=d9) (F0:=fmT d9) (W0:=0) (path:=47 :: dn) (d:=0) (i:=1) (nm:=dn) (sl:=[]) (x:=.dir []) hp.ok K8 (by simp only [List.length_cons];omega) (by intro h;injection h with _ h;rw [h] at hdl;simp at hdl) (Py hdn) (by unfold dx;rw [if_pos hdn];rfl) rfl (by omega) rfl (fun j hj=>by rw [show j=0 by omega];simp [d9]) rfl rfl (hp.w (by decide)) (by
  have h1:tot (fmT d9) p.ino=0:=by rw [xg];exact Cb _
  have h2:has (max (64 * ([]:List Slot).length) (64 * d8 []+64))=1:=rfl
  rw [h1,h2]
  omega)) (h:=?_)
 rintro _ _ ⟨rfl,rfl⟩
 refine .assign (.x (.move ?_))
 refine .nei ?_
 refine .z ?_
 refine .condF rfl rfl ?_
 refine .skip (.next (.seq ?_))
 refine .dr ([pt bf (.cells #[.pointer (some ⟨f,0,none⟩)] 29 (0,0)),pt bd (.cells #[sv (47 :: dn)] 9 (0,0))]) [] 9 mixed .autoJ ?_
 refine .tk 0 rfl (.ld sc29) ?_
 refine .tk 1 rfl (.ld sc9) ?_
 refine .on 2 rfl fun hnp=>?_
 refine .call (hc:=Tryz.call47) (sp:=lx (dir:=47 :: dn) (b:=0) (by simp only [List.length_cons];omega) (by decide)) (h:=?_)
 rintro _ _ ⟨rfl,rfl⟩
 rw [ly]
 refine .nil (.wa hnp ?_)
 refine .on 3 rfl fun hnp=>?_
 refine .shutR (DB.opens f p dn 0 (fmT d9) [] 9) (_,[]) (Su hdn (by omega)) ?_
 refine .shutR (DBF.opens f p dn 0 (fmT d9) [] 9) [] rfl ?_
 refine .call (hc:=Tryz.call46) (sp:=Im (f:=f) (base:=((0:Nat):Int)) (path:=d3 dn (aw 0)) (H:=DBF f p dn 0 (fmT d9) [] 9) (H':=DBF f p dn 1 (fmT d9) [(0,[])] 18) (by decide) (C1 (ss:=[]) hp ⟨by decide,by omega,by decide,by decide⟩ (by decide) (by decide) (fun y hy=>absurd hy List.not_mem_nil))) (h:=?_)
 rintro _ _ ⟨s,rfl,rfl⟩
 refine .nil (.wa hnp ?_)
 refine .tk 4 rfl .move ?_
 refine .tk 5 rfl .extract ?_
 refine .tk 6 rfl .extract ?_
 refine .tk 7 rfl .assign ?_
 refine .tk 8 rfl .assign ?_
 refine .fin ?_
 refine .next (.sr (.move (.assign (.z (.ret (?_))))))
 refine .openR (DBF.opens f p dn 1 (fmT d9) [(0,[])] 18) fun fl hfl=>?_
 simp only [List.cons_append,List.nil_append]
 refine .openR (DB.opens f p dn 1 (fmT d9) fl 18) fun z hd=>?_
 simp only [List.cons_append,List.nil_append]
 refine .shutR (bun.opens [pt bf (.cells #[.pointer (some ⟨f,0,none⟩)] 29 (0,0)),pt bd (.cells #[sv (47 :: dn)] 9 (0,0))]) () trivial ?_
 exact .ret1 (h1:=.tmp (t:=2) rfl) ⟨_,⟨(z.1,z.2,fl),⟨hd,hfl⟩,rfl,rfl⟩,Am.auto⟩
theorem Mf {f:Nat} {p:Pl} {dn:aa} {st:Sts} (hp:PlP p) (hdn:ap dn=true) (hi:6<=p.ino) (hst:er st=true):Spec Tryz.prog 29 #[.pointer (some ⟨f,0,none⟩),sv (47 :: dn),.agg st.v.toArray] [FSR f p d9] fun F v M=>v=okV/\M=DRF f p dn 1 [(0,[])] :: F:=by
 refine Spec.intro Tryz.func29 rfl rfl fun B F=>?_
 simp only [Tryz.ntmps29,List.cons_append,List.nil_append,env0,Nat.reduceAdd]
 refine .sr ?_
 refine .box fun b3=>?_
 refine .box fun b4=>?_
 refine .box fun b5=>?_
 refine .assign (.z (.seq (.sr ?_)))
 refine .ldA ?_ uk
 refine .call (hc:=Tryz.call10) (sp:=C2 (s:=st)) (h:=?_)
 rintro _ _ ⟨rfl,rfl⟩
 rw [hst]
 refine .not ?_
 refine .z ?_
 refine .condF rfl rfl ?_
 refine .skip (.next (.sr ?_))
 refine .ld ?_ sc29
 refine .makeFuncB ?_
 refine .shutR (bun.opens [pt b3 (.cells #[.pointer (some ⟨f,0,none⟩)] 29 (0,0)),pt b4 (.cells #[sv (47 :: dn)] 9 (0,0))]) () trivial ?_
 refine .call (hc:=Tryz.call41) (sp:=vc (f:=f) (p:=p) (α:=FT×List Slot×List PF) (q:=fun y=>(DirF p dn 1 y.1 y.2.1 y.2.2/\FilesOf y.2.2 [(0,[])])) (T:=d9) (T':=fun y=>y.1) (W':=fun _=>18) (X0:=bun [pt b3 (.cells #[.pointer (some ⟨f,0,none⟩)] 29 (0,0)),pt b4 (.cells #[sv (47 :: dn)] 9 (0,0))]) (X':=fun _=>bun [pt b3 (.cells #[.pointer (some ⟨f,0,none⟩)] 29 (0,0)),pt b4 (.cells #[sv (47 :: dn)] 9 (0,0))]) hp.ok (hc:=Tryz.call58) (Iv hp hdn hi)) (h:=?_)
 rintro _ _ ⟨y,hy,rfl,rfl⟩
 refine .shutR (DR.opens f p dn 1 y.2.2) (y.1,y.2.1) hy.1 ?_
 refine .shutR (DRF.opens f p dn 1 [(0,[])]) y.2.2 hy.2 ?_
 refine .assign (.z (.ret (?_)))
 exact .ret1 (h1:=.tmp (t:=6) rfl) ⟨_,⟨rfl,rfl⟩,Am.auto⟩
theorem Bh {f N:Nat} {p:Pl} {dn:aa} {st:Sts} (hp:PlP p) (hdn:ap dn=true) (hf:FitsP p N [(0,[])]) (hst:er st=true):Spec Tryz.prog 30 #[.pointer (some ⟨f,0,none⟩),sv (47 :: dn),.agg st.v.toArray] [DRF f p dn N [(0,[])]] fun F v M=>∃ pp,v=.tuple #[.pointer (some ⟨pp,0,none⟩),.int .i64 0]/\M=PT pp f dn st [] [(0,[])] :: DRF f p dn N [(0,[])] :: F:=by
 refine Spec.intro Tryz.func30 rfl rfl fun B F=>?_
 simp only [Tryz.ntmps30,List.cons_append,List.nil_append,env0,Nat.reduceAdd]
 have hdl:=an hdn
 refine .sr ?_
 refine .box fun b5=>?_
 refine .assign (.assign (.z (.seq (.sr ?_))))
 refine .ldA ?_ uk
 refine .call (hc:=Tryz.call10) (sp:=C2 (s:=st)) (h:=?_)
 rintro _ _ ⟨rfl,rfl⟩
 rw [hst]
 refine .not ?_
 refine .z ?_
 refine .condF rfl rfl ?_
 refine .skip (.next (.sr (.move (.move ?_))))
 refine .call (hc:=Tryz.call59) (sp:=Iu (y:=(0,[])) hp hf) (h:=?_)
 rintro _ _ ⟨u,rfl,rfl⟩
 refine .rowOpen (v:=u) (xs:=svs [aw 0]) (hx:=fun h=>by cases h) fun A c hv hR hc1 hc2=>?_
 subst hv
 refine .move ?_
 refine .extract (.extract ?_)
 refine .assign (.assign (.z (.seq (.sr (.move ?_)))))
 refine .nei ?_
 refine .z ?_
 refine .condF rfl rfl ?_
 refine .skip (.next (.sr (.move (.move ?_))))
 refine .ldA ?_ uk
 refine .build ?_ (Sw f (bstr (47 :: dn)) st.seg st.bytes st.age st.comp st.delay)
 refine .box fun b34=>?_
 refine .assign (.z (.seq (.sr (.move ?_))))
 refine .lenS ?_ sl62
 refine .move (.z (.block ?_))
 obtain ⟨ab,ao,asp⟩:=A
 have hasp:asp=none:=hR.1
 subst hasp
 refine .loopN 2 (RC.succ ?_)
 refine .sr ?_
 refine .lss ?_
 refine .z (.seq ?_)
 refine .condT rfl rfl ?_
 refine .skip (.next (.seq (.block (.sr ?_))))
 refine .idx1 ?_ so62
 rw [show ao+((0:Int)).toNat=ao+0 from rfl]
 refine .ldR (i:=0) (v:=sv (aw 0)) ?_ sc9 hR rfl
 refine .assign (.z (.seq (.sr (.move ?_))))
 refine .call (hc:=Tryz.call60) (sp:=Pm (xs:=aw 0) (ps:=[46,110,101,119]) (by rw [dt];decide) (by rw [dt];decide)) (h:=?_)
 rintro _ _ ⟨rfl,rfl⟩
 rw [sufP 0]
 refine .z ?_
 refine .condF rfl rfl ?_
 refine .skip (.next (.sr (.move ?_)))
 refine .call (hc:=Tryz.call62) (sp:=L2 (b:=0) (by decide)) (h:=?_)
 rintro _ _ ⟨rfl,rfl⟩
 refine .move ?_
 refine .extract (.extract ?_)
 refine .assign (.assign (.z (.seq (.sr (.move ?_)))))
 refine .not ?_
 refine .z ?_
 refine .condF rfl rfl ?_
 refine .skip (.next (.sr (.move (.move (.move ?_)))))
 refine .call (hc:=Tryz.call47) (sp:=lx (dir:=47 :: dn) (b:=0) (by simp only [List.length_cons];omega) (by decide)) (h:=?_)
 rintro _ _ ⟨rfl,rfl⟩
 rw [ly]
 refine .move ?_
 refine .call (hc:=Tryz.call63) (sp:=L9 (f:=f) (base:=((0:Nat):Int)) (path:=d3 dn (aw 0)) (H:=DRF f p dn N [(0,[])]) (by decide) (Sv (pre:=[]) (post:=[]) (y:=(0,[])) hp hf (by decide))) (h:=?_)
 rintro _ _ ⟨s,rfl,rfl⟩
 refine .move ?_
 refine .extract (.extract ?_)
 refine .assign (.assign (.z (.seq (.sr (.move ?_)))))
 refine .nei ?_
 refine .z ?_
 refine .condF rfl rfl ?_
 refine .skip (.next (.region (.move (.move (.nilCheck ?_)))))
 refine .fa ?_ eu
 refine .ld ?_ sc82
 refine .move ?_
 refine .buildS (fun b77=>?_) (bsPS _)
 refine .emp (A:=rowR 86 1 (.slice none 0 0) 0 []) (rowR.nil _) ?_
 refine .append (v:=.slice none 0 0) (m:=1) (k:=0) (xs:=[]) (news:=[.pointer (some ⟨s,0,none⟩)]) so82 (by decide) (by repeat (first | exact .here | apply Rem.there | apply Repl.there | apply Mem.there)) (Reads.pt (cs:=#[.pointer (some ⟨s,0,none⟩)])) (by repeat (first | exact .here | apply Rem.there | apply Repl.there | apply Mem.there)) rfl (vm _ (fun v hv=>⟨s,List.mem_singleton.1 hv⟩)) (by decide) (by decide) ⟨_,z86,rfl⟩ (fun v' hv'=>?_)
 refine .toE (A:=rowR 86 1 v' (0+1) ([]++[.pointer (some ⟨s,0,none⟩)])) (bw (fun h=>by have:=(hv'.1 h).2;cases this)) ?_
 rintro ⟨g2,q2⟩ ⟨rfl,h2a,h2b,_⟩
 refine .nilCheck ?_
 refine .fa ?_ eu
 refine .st ?_ sc82
 refine .nil (.blockNormal (.next (.region ?_)))
 refine .add ?_
 refine .move (.nil ?_)
 refine .again (RC.succ ?_)
 refine .sr ?_
 refine .lss ?_
 refine .z (.seq ?_)
 refine .condF rfl rfl ?_
 refine .exit (.thenExit (.thenExit (.blockExit (?_))))
 refine .next (.seq (.sr (.move (.nilCheck ?_))))
 refine .fa ?_ eu
 refine .ld ?_ sc82
 refine .lenS ?_ sl82
 refine .eqi ?_
 refine .z ?_
 refine .condF rfl rfl ?_
 refine .skip (.next (.sr (.move (.assign (.assign (.z ?_))))))
 refine .ret (?_)
 refine .to (A:=SGP s f (d3 dn (aw 0)) ((0:Nat):Int) []) (A':=SGA f dn ⟨s,0,[]⟩) (fun h hh=>hh) ?_
 refine .emp (A:=segsH f dn ([]++[])) (by unfold segsH;exact bun.nil) ?_
 refine .segIn [] [] (⟨s,0,[]⟩:Seg) ?_
 refine .shutR (PT.opens b34 f dn st [] [(0,[])]) (g2,q2,[(⟨s,0,[]⟩:Seg)]) ⟨rfl,h2a,h2b,by show 1<=_;decide⟩ ?_
 exact .ret2 (h1:=.tmp (t:=6) rfl) (h2:=.tmp (t:=7) rfl) ⟨_,⟨b34,rfl,rfl⟩,Am.auto⟩
theorem sl40 :Tryz.prog.underlying 40=some (.slice 44):=by kernel_rfl
def atL (b:Bt) (t:Int):List Rc->Option Int
 | []=>none
 | r :: l=>if t<=r.time then some (b.base+r.off) else atL b t l
def atB (t:Int):List Bt->Option Int
 | []=>none
 | b :: l=>match atL b t b.recs with
  | some o=>some o
  | none=>atB t l
def zl (m:Int):List Rc->Int
 | []=>m
 | r :: l=>zl (if m < r.time then r.time else m) l
def t8 (m:Int):List Bt->Int
 | []=>m
 | b :: l=>t8 (zl m b.recs) l
theorem Sx {os:List (Nat×Obj)} {l:List BRow} {j:Nat} {x:BRow} {A2:Addr} {c2:Nat} (hx:l[j]?=some x) (hxs:x.s=.slice (some A2) x.b.recs.length c2):((l.flatMap BRow.v).drop (j * 5)).take 5=x.b.v (.slice (some A2) x.b.recs.length c2):=by
 rw [g8 BRow.v_len _ _ _ hx]
 unfold BRow.v
 rw [hxs]
theorem zm {α:Type} {l:List α} {i:Nat} {x:α} (h:l[i]?=some x):l.drop i=x :: l.drop (i+1):=by
 have hi:=(List.getElem?_eq_some_iff.1 h).1
 rw [List.drop_eq_getElem_cons hi,(List.getElem?_eq_some_iff.1 h).2]
theorem Sy {s f:Nat} {path:aa} {base:Int} {bs:List Bt} (hl:bs.length<=100000) (hb:∀ b∈bs,(0<=b.base/\b.base<=1125899906842624)/\∀ r∈b.recs,0<=r.off/\r.off<=1000):Spec Tryz.prog 66 #[.pointer (some ⟨s,0,none⟩)] [SGP s f path base bs] fun F v M=>v=.int .i64 (t8 (-1) bs)/\M=SGP s f path base bs :: F:=by
 refine Spec.intro Tryz.func66 rfl rfl fun B F=>?_
 simp only [Tryz.ntmps66,List.cons_append,List.nil_append,env0,Nat.reduceAdd]
 refine .sr (.assign (.x (.assign (.z (.seq (.sr (.move ?_)))))))
 refine .call (hc:=Tryz.call122) (sp:=sgAll (bs:=bs) hl) (h:=?_)
 rintro v _ rfl
 refine .openR (BL.opens _ _) fun y hy=>?_
 obtain ⟨l,os2⟩:=y
 obtain ⟨hl1,hl2⟩:=hy
 simp only [List.cons_append,List.nil_append] at hl1 hl2 ⊢
 refine .fact (ag (el:=44) (size:=5) (k:=l.length) (v:=v) (xs:=l.flatMap BRow.v)) fun ⟨A,c,hv,hR,_,_,_⟩=>?_
 subst hv
 have hll:l.length=bs.length:=by rw [<- hl1,List.length_map]
 refine .lenS ?_ sl40
 refine .move (.z (.block ?_))
 refine .loopA (σ:=Nat×Int) (fun y=>[(3,.int .i64 y.2),(9,.slice A l.length c),(10,.int .i64 ((l.length:Nat):Int)),(11,.int .i64 ((y.1:Nat):Int))]) (fun y=>[rowR 44 5 (.slice A l.length c) l.length (l.flatMap BRow.v),frz os2,SGP s f path base bs]++F) (fun y=>y.1<=l.length/\t8 (-1) bs=t8 y.2 (bs.drop y.1)) (fun y=>l.length - y.1) (0,-1) ⟨Nat.zero_le _,rfl⟩ ?_
 rintro y hy
 obtain ⟨j,m⟩:=y
 obtain ⟨hj,hres⟩:=hy
 simp only at hj hres ⊢
 refine .sr ?_
 refine .lss ?_
 refine .z (.seq ?_)
 refine .cond rfl (fun hd=>?_) (fun hd=>?_)
 ·have hlt:j < l.length:=by have h:((j:Nat):Int) < ((l.length:Nat):Int):=of_decide_eq_true hd;omega
  obtain ⟨x,hx⟩:∃ x,l[j]?=some x:=⟨_,List.getElem?_eq_getElem hlt⟩
  obtain ⟨hpos,hlen,A2,c2,hxs,hRx⟩:=hl2 x (List.mem_of_getElem? hx)
  obtain ⟨ab,ao,rfl⟩:=vg hR (by omega)
  obtain ⟨a2b,a2o,a2s⟩:=A2
  have ha2s:a2s=none:=hRx.1
  subst ha2s
  have hbx:bs[j]?=some x.b:=by rw [<- hl1,List.getElem?_map,hx];rfl
  have hbd:=zm hbx
  have hus:=Sx (os:=os2) hx hxs
  rw [hbd] at hres
  refine .skip (.next (.seq (.block (.sr ?_))))
  refine .idx ?_ so40
  refine .cast (d:=13) (u:=.pointer (some ⟨ab,ao+j * 5,none⟩)) rfl (congrArg (fun z=>Value.pointer (some ⟨ab,z,none⟩)) (by show ao+((j:Nat):Int).toNat * 5=_;rw [Int.toNat_natCast])) ?_
  refine .ldAR (i:=j * 5) ?_ ex hR hus (jx BRow.v_len hlt)
  refine .alloc z44 fun b5=>?_
  refine .stV ?_ ex
  refine .x ?_
  refine .fa ?_ mi
  refine .ld ?_ sc37
  refine .lenS ?_ sl37
  refine .move (.z (.block ?_))
  refine .loopA (σ:=Nat×Int) (fun z=>[(3,.int .i64 z.2),(9,.slice (some ⟨ab,ao,none⟩) l.length c),(10,.int .i64 ((l.length:Nat):Int)),(11,.int .i64 ((j:Nat):Int)),(5,.pointer (some ⟨b5,0,none⟩)),(16,.slice (some ⟨a2b,a2o,none⟩) x.b.recs.length c2),(17,.int .i64 ((x.b.recs.length:Nat):Int)),(18,.int .i64 ((z.1:Nat):Int))]) (fun z=>[pt b5 (.cells (x.b.v (.slice (some ⟨a2b,a2o,none⟩) x.b.recs.length c2)).toArray 44 (0,0)),rowR 44 5 (.slice (some ⟨ab,ao,none⟩) l.length c) l.length (l.flatMap BRow.v),frz os2,SGP s f path base bs]++F) (fun z=>z.1<=x.b.recs.length/\zl m x.b.recs=zl z.2 (x.b.recs.drop z.1)) (fun z=>x.b.recs.length - z.1) (0,m) ⟨Nat.zero_le _,rfl⟩ ?_
  rintro z hz
  obtain ⟨k,m2⟩:=z
  obtain ⟨hk,hin⟩:=hz
  simp only at hk hin ⊢
  refine .sr ?_
  refine .lss ?_
  refine .z (.seq ?_)
  refine .cond rfl (fun hd2=>?_) (fun hd2=>?_)
  ·have hkt:k < x.b.recs.length:=by have h:((k:Nat):Int) < ((x.b.recs.length:Nat):Int):=of_decide_eq_true hd2;omega
   obtain ⟨r,hr⟩:∃ r,x.b.recs[k]?=some r:=⟨_,List.getElem?_eq_getElem hkt⟩
   rw [zm hr] at hin
   have hru:=g8 Rc.v_len _ _ _ hr
   have hbr:=hb x.b (List.mem_of_getElem? hbx)
   have hrr:=hbr.2 r (List.mem_of_getElem? hr)
   refine .skip (.next (.seq (.block (.sr ?_))))
   refine .idx ?_ so37
   refine .cast (d:=20) (u:=.pointer (some ⟨a2b,a2o+k * 6,none⟩)) rfl (congrArg (fun z=>Value.pointer (some ⟨a2b,z,none⟩)) (by show a2o+((k:Nat):Int).toNat * 6=_;rw [Int.toNat_natCast])) ?_
   refine .ldAR (i:=k * 6) ?_ ti hRx hru (jx Rc.v_len hkt)
   refine .alloc z95 fun b7=>?_
   refine .stV ?_ ti
   refine .y (.move ?_)
   refine .fa ?_ zd
   refine .ld ?_ sc3
   refine .maxI ?_
   refine .assign (.nil (.blockNormal (.next (.region ?_))))
   refine .add ?_
   refine .move (.nil ?_)
   exact .back (k+1,if m2 < r.time then r.time else m2) ⟨by show k+1<=_;omega,by rw [hin];rfl⟩ (by show x.b.recs.length - (k+1) < x.b.recs.length - k;omega)
  ·have hke:k=x.b.recs.length:=by have h:¬ ((k:Nat):Int) < ((x.b.recs.length:Nat):Int):=of_decide_eq_false hd2;omega
   subst hke
   rw [List.drop_length] at hin
   refine .exit (.thenExit (.thenExit (.blockExit (?_))))
   refine .blockNormal (.next (.region ?_))
   refine .add ?_
   refine .move (.nil ?_)
   exact .back (j+1,m2) ⟨by show j+1<=_;omega,by rw [hres];show t8 (zl _ _) _=_;rw [hin];rfl⟩ (by show l.length - (j+1) < l.length - j;omega)
 ·have hge:j=l.length:=by have h:¬ ((j:Nat):Int) < ((l.length:Nat):Int):=of_decide_eq_false hd;omega
  rw [hge,hll,List.drop_length] at hres
  refine .exit (.thenExit (.thenExit (.blockExit (?_))))
  refine .next (.sr (.move (.assign (.z (.ret (?_))))))
  exact .ret1 (h1:=.tmp (t:=2) rfl) ⟨_,⟨by rw [hres];rfl,rfl⟩,Am.auto⟩
def mo (st:Sts) (now:Int) (y:SegA):Bool:=decide (0<=st.age) && decide (t8 (-1) y.2+st.age < now)
def mq (st:Sts) (n:Int):Bool:=decide (0<=st.bytes) && decide (st.bytes < n)
def nk (st:Sts) (now:Int) (y:SegA) (post:List SegA):Bool:=!post.isEmpty && (mo st now y || mq st ((bytT ((y :: post).take post.length):Nat):Int))
theorem Er {f k:Nat} {dn:aa} {l:List Seg} {z:Seg} (h:l[k]?=some z):Spec Tryz.prog 44 #[z.ptr] [segsH f dn l] fun F u M=>u=.int .i64 (((byt z.a).length:Nat):Int)/\M=segsH f dn l :: F:=by
 have hk:=(List.getElem?_eq_some_iff.1 h).1
 have e:l=l.take k++z :: l.drop (k+1):=by
  conv=>lhs;rw [<- List.take_append_drop k l]
  rw [List.drop_eq_getElem_cons hk,(List.getElem?_eq_some_iff.1 h).2]
 have h1:=lz (f:=f) (dn:=dn) (pre:=l.take k) (post:=l.drop (k+1)) (x:=z)
 rwa [<- e] at h1
theorem jz {f:Nat} {dn:aa} {pre post:List Seg} {x:Seg} (hl:x.bs.length<=100000) (hb:∀ b∈x.bs,(0<=b.base/\b.base<=1125899906842624)/\∀ r∈b.recs,0<=r.off/\r.off<=1000):Spec Tryz.prog 66 #[x.ptr] [segsH f dn (pre++x :: post)] fun F u M=>u=.int .i64 (t8 (-1) x.bs)/\M=segsH f dn (pre++x :: post) :: F:=segsH.one (Sy hl hb)
theorem Iw {l:List Seg} {k:Nat} {z:Seg} (h:l[k]?=some z):bytT ((l.take (k+1)).map Seg.a)=bytT ((l.take k).map Seg.a)+(byt z.a).length:=by
 rw [List.take_add_one,h,Option.toList_some,List.map_append,qv]
 rfl
theorem Pz (l:List Seg) (k:Nat):bytT ((l.take k).map Seg.a)<=bytT (l.map Seg.a):=by
 conv=>rhs;rw [<- List.take_append_drop k l,List.map_append,qv]
 omega
theorem Es {st:Sts} (h:er st=true):(512<=st.seg/\st.seg<=8192)/\(-1<=st.bytes/\st.bytes<=1099511627776)/\(-1<=st.age/\st.age<=1125899906842624)/\(0<=st.delay/\st.delay<=1125899906842624):=by
 unfold er at h
 simp only [Bool.and_eq_true,decide_eq_true_eq] at h
 omega
theorem Et {pp f N:Nat} {p:Pl} {dn:aa} {st:Sts} {dp:List Value} {now:Int} {y:SegA} {post:List SegA} (hp:PlP p) (hf:FitsP p N (y :: post)) (hdn:dn.length<=900) (hst:er st=true) (hnow:-9223372036854775808<=now/\now<=9223372036854775807) (hy:y.1<=1125899906842624) (hrows:y.2.length<=9999)
  (hyb:∀ b∈y.2,(0<=b.base/\b.base<=1125899906842624)/\∀ r∈b.recs,0<=r.off/\r.off<=1000) (hlast:post≠[]->0<=t8 (-1) y.2/\t8 (-1) y.2<=1125899906842624):Spec Tryz.prog 32 #[.pointer (some ⟨pp,0,none⟩),.int .i64 now] [PT pp f dn st dp (y :: post),DRF f p dn N (y :: post)]
  fun F v M=>(nk st now y post=false/\v=.tuple #[.bool false,.int .i64 0]/\M=PT pp f dn st dp (y :: post) :: DRF f p dn N (y :: post) :: F) ∨ (nk st now y post=true/\∃ x,v=.tuple #[.bool true,.int .i64 0]/\M=PT pp f dn st (dp++[x]) post :: DRF f p dn N post :: F):=by
 refine Spec.intro Tryz.func32 rfl rfl fun B F=>?_
 simp only [Tryz.ntmps32,List.cons_append,List.nil_append,env0,Nat.reduceAdd]
 refine .openR (PT.opens pp f dn st dp (y :: post)) fun x hx=>?_
 obtain ⟨g0,c0,l⟩:=x
 obtain ⟨hls,hc1,hc2,hn2⟩:=hx
 simp only [ptLs,List.cons_append,List.nil_append] at hls hc1 hc2 hn2 ⊢
 obtain ⟨z,l0,rfl,rfl,hl0⟩:=vk hls
 have hn:0 < (z :: l0).length:=by simp
 have hnc:(z :: l0).length<=c0 - dp.length:=by omega
 have hll:l0.length=post.length:=by rw [<- hl0,List.length_map]
 have hrng:=Es hst
 have hflen:=hf.len
 simp only [List.length_cons] at hflen
 have hby:=hf.byt
 rw [<- hls] at hby
 by_cases hpe:post=[]
 ·have hgo:nk st now z.a post=false:=by unfold nk;rw [hpe];rfl
  have hl00:l0.length=0:=by rw [hll,hpe];rfl
  refine .sr (.assign (.assign (.z (.seq (.sr (.move ?_))))))
  refine .call (hc:=Tryz.call38) (sp:=ie hn hn2) (h:=?_)
  rintro _ _ ⟨rfl,rfl⟩
  refine .not ?_
  refine .z ?_
  refine .condF rfl rfl ?_
  refine .skip (.next (.seq (.sr (.move ?_))))
  refine .call (hc:=Tryz.call65) (sp:=pz (pp:=pp) (f:=f) (g:=g0) (r:=dp.length) (n:=(z :: l0).length) (c:=c0 - dp.length) (dn:=dn) (st:=st) hn hn2 hnc) (h:=?_)
  rintro _ _ ⟨rfl,rfl⟩
  rw [show (z :: l0).length - 1=l0.length from rfl]
  refine .lenS ?_ sl82
  refine .eqi ?_
  refine .z ?_
  refine .condT rfl (cB9 (by first | (exact decide_eq_true (by omega)) | (exact decide_eq_false (by omega)) | (simp;done) | (simp;omega) | omega)) ?_
  refine .sr (.assign (.assign (.z ?_)))
  refine .ret (.thenRet (?_))
  refine .shutR (PT.opens pp f dn st dp (z.a :: post)) (g0,c0,z :: l0) ⟨hls,hc1,hc2,hn2⟩ ?_
  exact .ret2 (h1:=.tmp (t:=4) rfl) (h2:=.tmp (t:=5) rfl) ⟨_,.inl ⟨hgo,rfl,rfl⟩,Am.auto⟩
 ·have hpl:0 < post.length:=List.length_pos_iff.2 hpe
  obtain ⟨hla1,hla2⟩:=hlast hpe
  refine .sr (.assign (.assign (.z (.seq (.sr (.move ?_))))))
  refine .call (hc:=Tryz.call38) (sp:=ie hn hn2) (h:=?_)
  rintro _ _ ⟨rfl,rfl⟩
  refine .not ?_
  refine .z ?_
  refine .condF rfl rfl ?_
  refine .skip (.next (.seq (.sr (.move ?_))))
  refine .call (hc:=Tryz.call65) (sp:=pz (pp:=pp) (f:=f) (g:=g0) (r:=dp.length) (n:=(z :: l0).length) (c:=c0 - dp.length) (dn:=dn) (st:=st) hn hn2 hnc) (h:=?_)
  rintro _ _ ⟨rfl,rfl⟩
  rw [show (z :: l0).length - 1=l0.length from rfl]
  refine .lenS ?_ sl82
  refine .eqi ?_
  refine .z ?_
  refine .condF rfl (cB9 (by first | (exact decide_eq_true (by omega)) | (exact decide_eq_false (by omega)) | (simp;done) | (simp;omega) | omega)) ?_
  refine .skip (.next (.sr (.move (.nilCheck ?_))))
  refine .fa ?_ eu
  refine .ld ?_ sc82
  refine .idx1 ?_ so82
  refine .ldR (i:=0) (v:=z.ptr) ?_ sc86 (gp (l:=z :: l0)) rfl
  refine .assign (.x (.assign (.z (.seq (.sr (.move ?_))))))
  refine .call (hc:=Tryz.call65) (sp:=pz (pp:=pp) (f:=f) (g:=g0) (r:=dp.length) (n:=(z :: l0).length) (c:=c0 - dp.length) (dn:=dn) (st:=st) hn hn2 hnc) (h:=?_)
  rintro _ _ ⟨rfl,rfl⟩
  rw [show (z :: l0).length - 1=l0.length from rfl]
  refine .lenS ?_ sl82
  refine .move (.z (.block ?_))
  refine .cast (d:=7) (u:=.int .i64 ((bytT (((z :: l0).take 0).map Seg.a):Nat):Int)) rfl rfl ?_
  refine .loopA (σ:=Nat) (fun k=>[(0,.pointer (some ⟨pp,0,none⟩)),(1,.int .i64 now),(6,z.ptr),(7,.int .i64 ((bytT (((z :: l0).take k).map Seg.a):Nat):Int)),(27,.slice (some ⟨g0,dp.length,none⟩) l0.length (c0 - dp.length)),(28,.int .i64 ((l0.length:Nat):Int)),(29,.int .i64 ((k:Nat):Int))]) (fun k=>[pt pp (jy f dn st (.slice (some ⟨g0,dp.length,none⟩) (z :: l0).length (c0 - dp.length))),buf g0 86 c0 (dp++(z :: l0).map Seg.ptr),segsH f dn (z :: l0),DRF f p dn N (z.a :: post)]++F) (fun k=>k<=l0.length) (fun k=>l0.length - k) 0 (Nat.zero_le _) ?_
  rintro k hk
  refine .sr ?_
  refine .lss ?_
  refine .z (.seq ?_)
  refine .cond rfl (fun hd=>?_) (fun hd=>?_)
  ·have hkl:k < l0.length:=by have h:((k:Nat):Int) < ((l0.length:Nat):Int):=of_decide_eq_true hd;omega
   obtain ⟨u,hu⟩:∃ u,(z :: l0)[k]?=some u:=⟨_,List.getElem?_eq_getElem (by simp only [List.length_cons];omega)⟩
   have hst1:=Iw hu
   have hst2:=Pz (z :: l0) (k+1)
   refine .skip (.next (.seq (.block (.sr ?_))))
   refine .idx1 ?_ so82
   refine .ldR (i:=((k:Nat):Int).toNat) (v:=u.ptr) ?_ sc86 (gp (l:=z :: l0)) (by rw [Int.toNat_natCast,List.getElem?_map,hu];rfl)
   refine .assign (.y (.move (.move ?_)))
   refine .call (hc:=Tryz.call44) (sp:=Er (f:=f) (dn:=dn) (l:=z :: l0) hu) (h:=?_)
   rintro _ _ ⟨rfl,rfl⟩
   refine .add ?_
   refine .cast (d:=36) (u:=.int .i64 ((bytT (((z :: l0).take (k+1)).map Seg.a):Nat):Int)) rfl (cI9 (by rw [hst1];omega)) ?_
   refine .assign (.nil (.blockNormal (.next (.region ?_))))
   refine .add ?_
   refine .move (.nil ?_)
   exact .back (k+1) (show k+1<=l0.length from hkl) (show l0.length - (k+1) < l0.length - k by omega)
  ·have hke:k=l0.length:=by have h:¬ ((k:Nat):Int) < ((l0.length:Nat):Int):=of_decide_eq_false hd;have h2:k<=l0.length:=hk;omega
   subst hke
   have hbe:bytT (((z :: l0).take l0.length).map Seg.a)=bytT ((z.a :: post).take post.length):=by rw [<- hls,<-List.map_take,hll]
   rw [hbe]
   have hgo0:nk st now z.a post=(mo st now z.a || mq st ((bytT ((z.a :: post).take post.length):Nat):Int)):=by unfold nk;rw [show post.isEmpty=false by cases post with | nil=>exact absurd rfl hpe | cons a b=>rfl];rfl
   generalize hG:((bytT ((z.a :: post).take post.length):Nat):Int)=G at *
   generalize hL:t8 (-1) z.a.2=la at *
   by_cases ha1:st.age < 0
   ·by_cases hb1:st.bytes < 0
    ·refine .exit (.thenExit (.thenExit (.blockExit (?_))))
     refine .next (.sr (.move ?_))
     refine .call (hc:=Tryz.call66) (sp:=jz (f:=f) (dn:=dn) (pre:=[]) (post:=l0) (x:=z) (by show z.a.2.length<=_;omega) hyb) (h:=?_)
     rintro _ _ ⟨rfl,rfl⟩
     rw [show z.bs=z.a.2 from rfl]
     refine .assign (.x (.move (.nilCheck ?_)))
     refine .fa ?_ d4
     refine .fa ?_ jk
     refine .ld ?_ sc3
     refine .geq ?_
     refine .move ?_
     refine .cast (d:=46) (u:=.bool false) rfl (cB9 (by first | (exact decide_eq_true (by omega)) | (exact decide_eq_false (by omega)) | (simp;done) | (simp;omega) | omega)) ?_
     refine .gF (.gF (.gF (.gU (.gU (.gU ?_)))))
     refine .gU (.gU (.gU (.gU (.gU (.gU ?_)))))
     refine .gF (.pickF ?_)
     refine .assign (.z (.seq (.sr (.move ?_))))
     refine .not ?_
     refine .move (.gT (.move (.gT (.nilCheck (.gT ?_)))))
     refine .fa ?_ d4
     refine .gT ?_
     refine .fa ?_ jj
     refine .gT ?_
     refine .ld ?_ sc3
     refine .gT ?_
     refine .lss ?_
     refine .gT (.move ?_)
     refine .cast (d:=70) (u:=.bool true) rfl (cB9 (by first | (exact decide_eq_true (by omega)) | (exact decide_eq_false (by omega)) | (simp;done) | (simp;omega) | omega)) ?_
     refine .gF (.gF (.gF (.gF (.gF (.gF ?_)))))
     refine .gF (.gT (.pickT (.pickT (.z ?_))))
     refine .condT rfl rfl ?_
     refine .sr (.assign (.assign (.z ?_)))
     refine .ret (.thenRet (?_))
     have hgo:nk st now z.a post=false:=by rw [hgo0];unfold mo mq;rw [hL];simp;omega
     refine .shutR (PT.opens pp f dn st dp (z.a :: post)) (g0,c0,z :: l0) ⟨hls,hc1,hc2,hn2⟩ ?_
     exact .ret2 (h1:=.tmp (t:=4) rfl) (h2:=.tmp (t:=5) rfl) ⟨_,.inl ⟨hgo,rfl,rfl⟩,Am.auto⟩
    ·by_cases hb2:G<=st.bytes
     ·refine .exit (.thenExit (.thenExit (.blockExit (?_))))
      refine .next (.sr (.move ?_))
      refine .call (hc:=Tryz.call66) (sp:=jz (f:=f) (dn:=dn) (pre:=[]) (post:=l0) (x:=z) (by show z.a.2.length<=_;omega) hyb) (h:=?_)
      rintro _ _ ⟨rfl,rfl⟩
      rw [show z.bs=z.a.2 from rfl]
      refine .assign (.x (.move (.nilCheck ?_)))
      refine .fa ?_ d4
      refine .fa ?_ jk
      refine .ld ?_ sc3
      refine .geq ?_
      refine .move ?_
      refine .cast (d:=46) (u:=.bool false) rfl (cB9 (by first | (exact decide_eq_true (by omega)) | (exact decide_eq_false (by omega)) | (simp;done) | (simp;omega) | omega)) ?_
      refine .gF (.gF (.gF (.gU (.gU (.gU ?_)))))
      refine .gU (.gU (.gU (.gU (.gU (.gU ?_)))))
      refine .gF (.pickF ?_)
      refine .assign (.z (.seq (.sr (.move ?_))))
      refine .not ?_
      refine .move (.gT (.move (.gT (.nilCheck (.gT ?_)))))
      refine .fa ?_ d4
      refine .gT ?_
      refine .fa ?_ jj
      refine .gT ?_
      refine .ld ?_ sc3
      refine .gT ?_
      refine .lss ?_
      refine .gT (.move ?_)
      refine .cast (d:=70) (u:=.bool false) rfl (cB9 (by first | (exact decide_eq_true (by omega)) | (exact decide_eq_false (by omega)) | (simp;done) | (simp;omega) | omega)) ?_
      refine .gT (.move (.gT (.move (.gT (.nilCheck ?_)))))
      refine .gT ?_
      refine .fa ?_ d4
      refine .gT ?_
      refine .fa ?_ jj
      refine .gT ?_
      refine .ld ?_ sc3
      refine .gT ?_
      refine .leq ?_
      refine .gT (.pickF (.pickT (.z ?_)))
      refine .condT rfl (cB9 (by first | (exact decide_eq_true (by omega)) | (exact decide_eq_false (by omega)) | (simp;done) | (simp;omega) | omega)) ?_
      refine .sr (.assign (.assign (.z ?_)))
      refine .ret (.thenRet (?_))
      have hgo:nk st now z.a post=false:=by rw [hgo0];unfold mo mq;rw [hL];simp;omega
      refine .shutR (PT.opens pp f dn st dp (z.a :: post)) (g0,c0,z :: l0) ⟨hls,hc1,hc2,hn2⟩ ?_
      exact .ret2 (h1:=.tmp (t:=4) rfl) (h2:=.tmp (t:=5) rfl) ⟨_,.inl ⟨hgo,rfl,rfl⟩,Am.auto⟩
     ·refine .exit (.thenExit (.thenExit (.blockExit (?_))))
      refine .next (.sr (.move ?_))
      refine .call (hc:=Tryz.call66) (sp:=jz (f:=f) (dn:=dn) (pre:=[]) (post:=l0) (x:=z) (by show z.a.2.length<=_;omega) hyb) (h:=?_)
      rintro _ _ ⟨rfl,rfl⟩
      rw [show z.bs=z.a.2 from rfl]
      refine .assign (.x (.move (.nilCheck ?_)))
      refine .fa ?_ d4
      refine .fa ?_ jk
      refine .ld ?_ sc3
      refine .geq ?_
      refine .move ?_
      refine .cast (d:=46) (u:=.bool false) rfl (cB9 (by first | (exact decide_eq_true (by omega)) | (exact decide_eq_false (by omega)) | (simp;done) | (simp;omega) | omega)) ?_
      refine .gF (.gF (.gF (.gU (.gU (.gU ?_)))))
      refine .gU (.gU (.gU (.gU (.gU (.gU ?_)))))
      refine .gF (.pickF ?_)
      refine .assign (.z (.seq (.sr (.move ?_))))
      refine .not ?_
      refine .move (.gT (.move (.gT (.nilCheck (.gT ?_)))))
      refine .fa ?_ d4
      refine .gT ?_
      refine .fa ?_ jj
      refine .gT ?_
      refine .ld ?_ sc3
      refine .gT ?_
      refine .lss ?_
      refine .gT (.move ?_)
      refine .cast (d:=70) (u:=.bool false) rfl (cB9 (by first | (exact decide_eq_true (by omega)) | (exact decide_eq_false (by omega)) | (simp;done) | (simp;omega) | omega)) ?_
      refine .gT (.move (.gT (.move (.gT (.nilCheck ?_)))))
      refine .gT ?_
      refine .fa ?_ d4
      refine .gT ?_
      refine .fa ?_ jj
      refine .gT ?_
      refine .ld ?_ sc3
      refine .gT ?_
      refine .leq ?_
      refine .gT (.pickF (.pickT (.z ?_)))
      refine .condF rfl (cB9 (by first | (exact decide_eq_true (by omega)) | (exact decide_eq_false (by omega)) | (simp;done) | (simp;omega) | omega)) ?_
      refine .skip (.next (.seq (.seq ?_)))
      have hgo:nk st now z.a post=true:=by rw [hgo0];unfold mo mq;rw [hL];simp;omega
      refine .dr ([pt pp (jy f dn st (.slice (some ⟨g0,dp.length,none⟩) (z :: l0).length (c0 - dp.length)))]) [] 13 mixed .autoJ ?_
      refine .tk 0 rfl .move ?_
      refine .tk 1 rfl .nilCheck ?_
      refine .tk 2 rfl (.fa vh) ?_
      refine .tk 3 rfl (.ld sc29) ?_
      refine .tk 4 rfl .move ?_
      refine .tk 5 rfl .nilCheck ?_
      refine .tk 6 rfl (.fa C4) ?_
      refine .tk 7 rfl (.ld sc9) ?_
      refine .tk 8 rfl .move ?_
      refine .on 9 rfl fun hnp=>?_
      refine .call (hc:=Tryz.call50) (sp:=qy (f:=f) (dn:=dn) (pre:=[]) (post:=l0) (x:=z)) (h:=?_)
      rintro _ _ ⟨rfl,rfl⟩
      refine .nil (.wa hnp ?_)
      refine .on 10 rfl fun hnp=>?_
      refine .call (hc:=Tryz.call47) (sp:=lx (dir:=47 :: dn) (b:=z.base) (by simp only [List.length_cons];omega) hy) (h:=?_)
      rintro _ _ ⟨rfl,rfl⟩
      rw [ly]
      refine .nil (.wa hnp ?_)
      refine .on 11 rfl fun hnp=>?_
      refine .call (hc:=Tryz.call61) (sp:=xq (f:=f) (p:=p) (dn:=dn) (N:=N) (pre:=[]) (post:=post) (y:=z.a) hp hf) (h:=?_)
      rintro _ _ ⟨rfl,rfl⟩
      refine .nil (.wa hnp ?_)
      refine .tk 12 rfl .assign ?_
      refine .fin ?_
      refine .next (.sr (.move ?_))
      refine .nei ?_
      refine .z ?_
      refine .condF rfl rfl ?_
      refine .skip (.next (.sr ?_))
      refine .segOut [] l0 ?_
      refine .move (.move (.nilCheck ?_))
      refine .fa ?_ eu
      refine .ld ?_ sc82
      refine .slcL ?_ so82
      refine .cast (d:=100) (u:=.slice (some ⟨g0,(dp++[z.ptr]).length,none⟩) l0.length (c0 - (dp++[z.ptr]).length)) rfl (by rw [if_neg (by show ¬ c0 - dp.length=1;simp only [List.length_cons] at hnc;omega),List.length_append,List.length_singleton,Nat.sub_sub];rfl) ?_
      refine .nilCheck ?_
      refine .fa ?_ eu
      refine .st ?_ sc82
      refine .x (.assign (.assign (.z (.ret (?_)))))
      refine .to (A:=buf g0 86 c0 (dp++(z :: l0).map Seg.ptr)) (A':=buf g0 86 c0 ((dp++[z.ptr])++l0.map Seg.ptr)) (fun h hh=>by rw [List.append_assoc];exact hh) ?_
      refine .shutR (PT.opens pp f dn st (dp++[z.ptr]) post) (g0,c0,l0) ⟨hl0,by simp only [List.length_append,List.length_cons,List.length_nil] at hc1 ⊢;omega,hc2,by simp only [List.length_cons] at hn2 ⊢;omega⟩ ?_
      exact .ret2 (h1:=.tmp (t:=4) rfl) (h2:=.tmp (t:=5) rfl) ⟨_,.inr ⟨hgo,z.ptr,rfl,rfl⟩,Am.auto⟩
   ·by_cases ha2:la+st.age < now
    ·refine .exit (.thenExit (.thenExit (.blockExit (?_))))
     refine .next (.sr (.move ?_))
     refine .call (hc:=Tryz.call66) (sp:=jz (f:=f) (dn:=dn) (pre:=[]) (post:=l0) (x:=z) (by show z.a.2.length<=_;omega) hyb) (h:=?_)
     rintro _ _ ⟨rfl,rfl⟩
     rw [show z.bs=z.a.2 from rfl]
     refine .assign (.x (.move (.nilCheck ?_)))
     refine .fa ?_ d4
     refine .fa ?_ jk
     refine .ld ?_ sc3
     refine .geq ?_
     refine .move ?_
     refine .cast (d:=46) (u:=.bool true) rfl (cB9 (by first | (exact decide_eq_true (by omega)) | (exact decide_eq_false (by omega)) | (simp;done) | (simp;omega) | omega)) ?_
     refine .gT (.move (.gT ?_))
     refine .lss ?_
     refine .gT (.move ?_)
     refine .cast (d:=49) (u:=.bool false) rfl (cB9 (by first | (exact decide_eq_true (by omega)) | (exact decide_eq_false (by omega)) | (simp;done) | (simp;omega) | omega)) ?_
     refine .gT (.move (.gT (.move (.gT (.move ?_)))))
     refine .gT (.nilCheck (.gT ?_))
     refine .fa ?_ d4
     refine .gT ?_
     refine .fa ?_ jk
     refine .gT ?_
     refine .ld ?_ sc3
     refine .gT ?_
     refine .add ?_
     refine .gT ?_
     refine .gtr ?_
     refine .gT (.pickF (.pickT ?_))
     refine .assign (.z (.seq (.sr (.move ?_))))
     refine .not ?_
     refine .move ?_
     refine .cast (d:=63) (u:=.bool false) rfl (cB9 (by first | (exact decide_eq_true (by omega)) | (exact decide_eq_false (by omega)) | (simp;done) | (simp;omega) | omega)) ?_
     refine .gF (.gF (.gF (.gF (.gF (.gF ?_)))))
     refine .gF (.gU (.gU (.gU (.gU (.gU ?_)))))
     refine .gU (.gU (.gF (.pickF (.z ?_))))
     refine .condF rfl rfl ?_
     refine .skip (.next (.seq (.seq ?_)))
     have hgo:nk st now z.a post=true:=by rw [hgo0];unfold mo mq;rw [hL];simp;omega
     refine .dr ([pt pp (jy f dn st (.slice (some ⟨g0,dp.length,none⟩) (z :: l0).length (c0 - dp.length)))]) [] 13 mixed .autoJ ?_
     refine .tk 0 rfl .move ?_
     refine .tk 1 rfl .nilCheck ?_
     refine .tk 2 rfl (.fa vh) ?_
     refine .tk 3 rfl (.ld sc29) ?_
     refine .tk 4 rfl .move ?_
     refine .tk 5 rfl .nilCheck ?_
     refine .tk 6 rfl (.fa C4) ?_
     refine .tk 7 rfl (.ld sc9) ?_
     refine .tk 8 rfl .move ?_
     refine .on 9 rfl fun hnp=>?_
     refine .call (hc:=Tryz.call50) (sp:=qy (f:=f) (dn:=dn) (pre:=[]) (post:=l0) (x:=z)) (h:=?_)
     rintro _ _ ⟨rfl,rfl⟩
     refine .nil (.wa hnp ?_)
     refine .on 10 rfl fun hnp=>?_
     refine .call (hc:=Tryz.call47) (sp:=lx (dir:=47 :: dn) (b:=z.base) (by simp only [List.length_cons];omega) hy) (h:=?_)
     rintro _ _ ⟨rfl,rfl⟩
     rw [ly]
     refine .nil (.wa hnp ?_)
     refine .on 11 rfl fun hnp=>?_
     refine .call (hc:=Tryz.call61) (sp:=xq (f:=f) (p:=p) (dn:=dn) (N:=N) (pre:=[]) (post:=post) (y:=z.a) hp hf) (h:=?_)
     rintro _ _ ⟨rfl,rfl⟩
     refine .nil (.wa hnp ?_)
     refine .tk 12 rfl .assign ?_
     refine .fin ?_
     refine .next (.sr (.move ?_))
     refine .nei ?_
     refine .z ?_
     refine .condF rfl rfl ?_
     refine .skip (.next (.sr ?_))
     refine .segOut [] l0 ?_
     refine .move (.move (.nilCheck ?_))
     refine .fa ?_ eu
     refine .ld ?_ sc82
     refine .slcL ?_ so82
     refine .cast (d:=100) (u:=.slice (some ⟨g0,(dp++[z.ptr]).length,none⟩) l0.length (c0 - (dp++[z.ptr]).length)) rfl (by rw [if_neg (by show ¬ c0 - dp.length=1;simp only [List.length_cons] at hnc;omega),List.length_append,List.length_singleton,Nat.sub_sub];rfl) ?_
     refine .nilCheck ?_
     refine .fa ?_ eu
     refine .st ?_ sc82
     refine .x (.assign (.assign (.z (.ret (?_)))))
     refine .to (A:=buf g0 86 c0 (dp++(z :: l0).map Seg.ptr)) (A':=buf g0 86 c0 ((dp++[z.ptr])++l0.map Seg.ptr)) (fun h hh=>by rw [List.append_assoc];exact hh) ?_
     refine .shutR (PT.opens pp f dn st (dp++[z.ptr]) post) (g0,c0,l0) ⟨hl0,by simp only [List.length_append,List.length_cons,List.length_nil] at hc1 ⊢;omega,hc2,by simp only [List.length_cons] at hn2 ⊢;omega⟩ ?_
     exact .ret2 (h1:=.tmp (t:=4) rfl) (h2:=.tmp (t:=5) rfl) ⟨_,.inr ⟨hgo,z.ptr,rfl,rfl⟩,Am.auto⟩
    ·by_cases hb1:st.bytes < 0
     ·refine .exit (.thenExit (.thenExit (.blockExit (?_))))
      refine .next (.sr (.move ?_))
      refine .call (hc:=Tryz.call66) (sp:=jz (f:=f) (dn:=dn) (pre:=[]) (post:=l0) (x:=z) (by show z.a.2.length<=_;omega) hyb) (h:=?_)
      rintro _ _ ⟨rfl,rfl⟩
      rw [show z.bs=z.a.2 from rfl]
      refine .assign (.x (.move (.nilCheck ?_)))
      refine .fa ?_ d4
      refine .fa ?_ jk
      refine .ld ?_ sc3
      refine .geq ?_
      refine .move ?_
      refine .cast (d:=46) (u:=.bool true) rfl (cB9 (by first | (exact decide_eq_true (by omega)) | (exact decide_eq_false (by omega)) | (simp;done) | (simp;omega) | omega)) ?_
      refine .gT (.move (.gT ?_))
      refine .lss ?_
      refine .gT (.move ?_)
      refine .cast (d:=49) (u:=.bool false) rfl (cB9 (by first | (exact decide_eq_true (by omega)) | (exact decide_eq_false (by omega)) | (simp;done) | (simp;omega) | omega)) ?_
      refine .gT (.move (.gT (.move (.gT (.move ?_)))))
      refine .gT (.nilCheck (.gT ?_))
      refine .fa ?_ d4
      refine .gT ?_
      refine .fa ?_ jk
      refine .gT ?_
      refine .ld ?_ sc3
      refine .gT ?_
      refine .add ?_
      refine .gT ?_
      refine .gtr ?_
      refine .gT (.pickF (.pickT ?_))
      refine .assign (.z (.seq (.sr (.move ?_))))
      refine .not ?_
      refine .move ?_
      refine .cast (d:=63) (u:=.bool true) rfl (cB9 (by first | (exact decide_eq_true (by omega)) | (exact decide_eq_false (by omega)) | (simp;done) | (simp;omega) | omega)) ?_
      refine .gT (.move (.gT (.nilCheck (.gT ?_))))
      refine .fa ?_ d4
      refine .gT ?_
      refine .fa ?_ jj
      refine .gT ?_
      refine .ld ?_ sc3
      refine .gT ?_
      refine .lss ?_
      refine .gT (.move ?_)
      refine .cast (d:=70) (u:=.bool true) rfl (cB9 (by first | (exact decide_eq_true (by omega)) | (exact decide_eq_false (by omega)) | (simp;done) | (simp;omega) | omega)) ?_
      refine .gF (.gF (.gF (.gF (.gF (.gF ?_)))))
      refine .gF (.gT (.pickT (.pickT (.z ?_))))
      refine .condT rfl rfl ?_
      refine .sr (.assign (.assign (.z ?_)))
      refine .ret (.thenRet (?_))
      have hgo:nk st now z.a post=false:=by rw [hgo0];unfold mo mq;rw [hL];simp;omega
      refine .shutR (PT.opens pp f dn st dp (z.a :: post)) (g0,c0,z :: l0) ⟨hls,hc1,hc2,hn2⟩ ?_
      exact .ret2 (h1:=.tmp (t:=4) rfl) (h2:=.tmp (t:=5) rfl) ⟨_,.inl ⟨hgo,rfl,rfl⟩,Am.auto⟩
     ·by_cases hb2:G<=st.bytes
      ·refine .exit (.thenExit (.thenExit (.blockExit (?_))))
       refine .next (.sr (.move ?_))
       refine .call (hc:=Tryz.call66) (sp:=jz (f:=f) (dn:=dn) (pre:=[]) (post:=l0) (x:=z) (by show z.a.2.length<=_;omega) hyb) (h:=?_)
       rintro _ _ ⟨rfl,rfl⟩
       rw [show z.bs=z.a.2 from rfl]
       refine .assign (.x (.move (.nilCheck ?_)))
       refine .fa ?_ d4
       refine .fa ?_ jk
       refine .ld ?_ sc3
       refine .geq ?_
       refine .move ?_
       refine .cast (d:=46) (u:=.bool true) rfl (cB9 (by first | (exact decide_eq_true (by omega)) | (exact decide_eq_false (by omega)) | (simp;done) | (simp;omega) | omega)) ?_
       refine .gT (.move (.gT ?_))
       refine .lss ?_
       refine .gT (.move ?_)
       refine .cast (d:=49) (u:=.bool false) rfl (cB9 (by first | (exact decide_eq_true (by omega)) | (exact decide_eq_false (by omega)) | (simp;done) | (simp;omega) | omega)) ?_
       refine .gT (.move (.gT (.move (.gT (.move ?_)))))
       refine .gT (.nilCheck (.gT ?_))
       refine .fa ?_ d4
       refine .gT ?_
       refine .fa ?_ jk
       refine .gT ?_
       refine .ld ?_ sc3
       refine .gT ?_
       refine .add ?_
       refine .gT ?_
       refine .gtr ?_
       refine .gT (.pickF (.pickT ?_))
       refine .assign (.z (.seq (.sr (.move ?_))))
       refine .not ?_
       refine .move ?_
       refine .cast (d:=63) (u:=.bool true) rfl (cB9 (by first | (exact decide_eq_true (by omega)) | (exact decide_eq_false (by omega)) | (simp;done) | (simp;omega) | omega)) ?_
       refine .gT (.move (.gT (.nilCheck (.gT ?_))))
       refine .fa ?_ d4
       refine .gT ?_
       refine .fa ?_ jj
       refine .gT ?_
       refine .ld ?_ sc3
       refine .gT ?_
       refine .lss ?_
       refine .gT (.move ?_)
       refine .cast (d:=70) (u:=.bool false) rfl (cB9 (by first | (exact decide_eq_true (by omega)) | (exact decide_eq_false (by omega)) | (simp;done) | (simp;omega) | omega)) ?_
       refine .gT (.move (.gT (.move (.gT (.nilCheck ?_)))))
       refine .gT ?_
       refine .fa ?_ d4
       refine .gT ?_
       refine .fa ?_ jj
       refine .gT ?_
       refine .ld ?_ sc3
       refine .gT ?_
       refine .leq ?_
       refine .gT (.pickF (.pickT (.z ?_)))
       refine .condT rfl (cB9 (by first | (exact decide_eq_true (by omega)) | (exact decide_eq_false (by omega)) | (simp;done) | (simp;omega) | omega)) ?_
       refine .sr (.assign (.assign (.z ?_)))
       refine .ret (.thenRet (?_))
       have hgo:nk st now z.a post=false:=by rw [hgo0];unfold mo mq;rw [hL];simp;omega
       refine .shutR (PT.opens pp f dn st dp (z.a :: post)) (g0,c0,z :: l0) ⟨hls,hc1,hc2,hn2⟩ ?_
       exact .ret2 (h1:=.tmp (t:=4) rfl) (h2:=.tmp (t:=5) rfl) ⟨_,.inl ⟨hgo,rfl,rfl⟩,Am.auto⟩
      ·refine .exit (.thenExit (.thenExit (.blockExit (?_))))
       refine .next (.sr (.move ?_))
       refine .call (hc:=Tryz.call66) (sp:=jz (f:=f) (dn:=dn) (pre:=[]) (post:=l0) (x:=z) (by show z.a.2.length<=_;omega) hyb) (h:=?_)
       rintro _ _ ⟨rfl,rfl⟩
       rw [show z.bs=z.a.2 from rfl]
       refine .assign (.x (.move (.nilCheck ?_)))
       refine .fa ?_ d4
       refine .fa ?_ jk
       refine .ld ?_ sc3
       refine .geq ?_
       refine .move ?_
       refine .cast (d:=46) (u:=.bool true) rfl (cB9 (by first | (exact decide_eq_true (by omega)) | (exact decide_eq_false (by omega)) | (simp;done) | (simp;omega) | omega)) ?_
       refine .gT (.move (.gT ?_))
       refine .lss ?_
       refine .gT (.move ?_)
       refine .cast (d:=49) (u:=.bool false) rfl (cB9 (by first | (exact decide_eq_true (by omega)) | (exact decide_eq_false (by omega)) | (simp;done) | (simp;omega) | omega)) ?_
       refine .gT (.move (.gT (.move (.gT (.move ?_)))))
       refine .gT (.nilCheck (.gT ?_))
       refine .fa ?_ d4
       refine .gT ?_
       refine .fa ?_ jk
       refine .gT ?_
       refine .ld ?_ sc3
       refine .gT ?_
       refine .add ?_
       refine .gT ?_
       refine .gtr ?_
       refine .gT (.pickF (.pickT ?_))
       refine .assign (.z (.seq (.sr (.move ?_))))
       refine .not ?_
       refine .move ?_
       refine .cast (d:=63) (u:=.bool true) rfl (cB9 (by first | (exact decide_eq_true (by omega)) | (exact decide_eq_false (by omega)) | (simp;done) | (simp;omega) | omega)) ?_
       refine .gT (.move (.gT (.nilCheck (.gT ?_))))
       refine .fa ?_ d4
       refine .gT ?_
       refine .fa ?_ jj
       refine .gT ?_
       refine .ld ?_ sc3
       refine .gT ?_
       refine .lss ?_
       refine .gT (.move ?_)
       refine .cast (d:=70) (u:=.bool false) rfl (cB9 (by first | (exact decide_eq_true (by omega)) | (exact decide_eq_false (by omega)) | (simp;done) | (simp;omega) | omega)) ?_
       refine .gT (.move (.gT (.move (.gT (.nilCheck ?_)))))
       refine .gT ?_
       refine .fa ?_ d4
       refine .gT ?_
       refine .fa ?_ jj
       refine .gT ?_
       refine .ld ?_ sc3
       refine .gT ?_
       refine .leq ?_
       refine .gT (.pickF (.pickT (.z ?_)))
       refine .condF rfl (cB9 (by first | (exact decide_eq_true (by omega)) | (exact decide_eq_false (by omega)) | (simp;done) | (simp;omega) | omega)) ?_
       refine .skip (.next (.seq (.seq ?_)))
       have hgo:nk st now z.a post=true:=by rw [hgo0];unfold mo mq;rw [hL];simp;omega
       refine .dr ([pt pp (jy f dn st (.slice (some ⟨g0,dp.length,none⟩) (z :: l0).length (c0 - dp.length)))]) [] 13 mixed .autoJ ?_
       refine .tk 0 rfl .move ?_
       refine .tk 1 rfl .nilCheck ?_
       refine .tk 2 rfl (.fa vh) ?_
       refine .tk 3 rfl (.ld sc29) ?_
       refine .tk 4 rfl .move ?_
       refine .tk 5 rfl .nilCheck ?_
       refine .tk 6 rfl (.fa C4) ?_
       refine .tk 7 rfl (.ld sc9) ?_
       refine .tk 8 rfl .move ?_
       refine .on 9 rfl fun hnp=>?_
       refine .call (hc:=Tryz.call50) (sp:=qy (f:=f) (dn:=dn) (pre:=[]) (post:=l0) (x:=z)) (h:=?_)
       rintro _ _ ⟨rfl,rfl⟩
       refine .nil (.wa hnp ?_)
       refine .on 10 rfl fun hnp=>?_
       refine .call (hc:=Tryz.call47) (sp:=lx (dir:=47 :: dn) (b:=z.base) (by simp only [List.length_cons];omega) hy) (h:=?_)
       rintro _ _ ⟨rfl,rfl⟩
       rw [ly]
       refine .nil (.wa hnp ?_)
       refine .on 11 rfl fun hnp=>?_
       refine .call (hc:=Tryz.call61) (sp:=xq (f:=f) (p:=p) (dn:=dn) (N:=N) (pre:=[]) (post:=post) (y:=z.a) hp hf) (h:=?_)
       rintro _ _ ⟨rfl,rfl⟩
       refine .nil (.wa hnp ?_)
       refine .tk 12 rfl .assign ?_
       refine .fin ?_
       refine .next (.sr (.move ?_))
       refine .nei ?_
       refine .z ?_
       refine .condF rfl rfl ?_
       refine .skip (.next (.sr ?_))
       refine .segOut [] l0 ?_
       refine .move (.move (.nilCheck ?_))
       refine .fa ?_ eu
       refine .ld ?_ sc82
       refine .slcL ?_ so82
       refine .cast (d:=100) (u:=.slice (some ⟨g0,(dp++[z.ptr]).length,none⟩) l0.length (c0 - (dp++[z.ptr]).length)) rfl (by rw [if_neg (by show ¬ c0 - dp.length=1;simp only [List.length_cons] at hnc;omega),List.length_append,List.length_singleton,Nat.sub_sub];rfl) ?_
       refine .nilCheck ?_
       refine .fa ?_ eu
       refine .st ?_ sc82
       refine .x (.assign (.assign (.z (.ret (?_)))))
       refine .to (A:=buf g0 86 c0 (dp++(z :: l0).map Seg.ptr)) (A':=buf g0 86 c0 ((dp++[z.ptr])++l0.map Seg.ptr)) (fun h hh=>by rw [List.append_assoc];exact hh) ?_
       refine .shutR (PT.opens pp f dn st (dp++[z.ptr]) post) (g0,c0,l0) ⟨hl0,by simp only [List.length_append,List.length_cons,List.length_nil] at hc1 ⊢;omega,hc2,by simp only [List.length_cons] at hn2 ⊢;omega⟩ ?_
       exact .ret2 (h1:=.tmp (t:=4) rfl) (h2:=.tmp (t:=5) rfl) ⟨_,.inr ⟨hgo,z.ptr,rfl,rfl⟩,Am.auto⟩
theorem xx :∀ (l:List Rc) (k i:Nat),(fw k l)[i]?=(l[i]?).map fun r=>{ r with off:=((k+i:Nat):Int) }
 | [],_,_=>by simp [fw]
 | r :: l,k,0=>by simp [fw]
 | r :: l,k,i+1=>by
  simp only [fw,List.getElem?_cons_succ]
  rw [xx l (k+1) i,show k+1+i=k+(i+1) by omega]
theorem C5 (b:Bt):(batB b).length=48+(b.recs.flatMap fun r=>encB r (ba b)).length:=by
 rw [Cz]
 unfold gi
 rw [List.length_append,fh]
theorem Mg {base prod seq:Int} {l:List Rc} (hn:1<=l.length/\l.length<=100) (hb:0<=base/\base<=1125899906842624) (hp:0<=prod) (hs:0<=seq) (hck:∀ r∈l,∀ j:Nat,j < 100->ckE { r with off:=((j:Nat):Int) }=0) (hfit:(batB (aq base prod seq l)).length<=6000):batE (aq base prod seq l)=0:=by
 have hl:(aq base prod seq l).recs.length=l.length:=ji l 0
 have hsp:(aq base prod seq l).span=((l.length:Nat):Int):=by show max ((l.length:Nat):Int) 1=_;omega
 have hat:∀ j r,l[j]?=some r->Ef (aq base prod seq l) j=((j:Nat):Int):=fun j r hr=>by
  have h1:(aq base prod seq l).recs[j]?=some { r with off:=((0+j:Nat):Int) }:=by
   show (fw 0 l)[j]?=_
   rw [xx,hr]
   rfl
  rw [xo h1]
  show ((0+j:Nat):Int)=_
  omega
 have ho:ia (aq base prod seq l)=true:=by
  refine (Cy ?_ fun j hj=>?_).symm
  ·unfold ef
   have e1:(aq base prod seq l).base=base:=rfl
   have e2:(aq base prod seq l).prod=prod:=rfl
   have e3:(aq base prod seq l).seq=seq:=rfl
   rw [hl,hsp,e1,e2,e3,decide_eq_false (by omega),decide_eq_false (by omega),decide_eq_false (by omega),decide_eq_false (by omega),decide_eq_false (by omega),decide_eq_false (by omega),decide_eq_false (by omega)]
   rfl
  ·rw [hl] at hj
   obtain ⟨r,hr⟩:∃ r,l[j]?=some r:=⟨_,List.getElem?_eq_getElem hj⟩
   unfold ml
   rw [hat j r hr,hsp,decide_eq_false (by omega),Bool.false_or]
   by_cases h0:j=0
   ·subst h0
    rfl
   ·obtain ⟨r2,hr2⟩:∃ r2,l[j - 1]?=some r2:=⟨_,List.getElem?_eq_getElem (by omega)⟩
    rw [hat (j - 1) r2 hr2,decide_eq_false (p:=((j:Nat):Int)<=((j - 1:Nat):Int)) (by omega),Bool.and_false]
    rfl
 have hall:∀ r∈(aq base prod seq l).recs,ckE r=0:=fun r hr=>by
  obtain ⟨j,hj⟩:=List.getElem?_of_mem hr
  have h1:(fw 0 l)[j]?=some r:=hj
  rw [xx] at h1
  cases h2:l[j]? with
  | none=>rw [h2] at h1;cases h1
  | some r0 =>
   rw [h2] at h1
   injection h1 with h1
   rw [<- h1]
   have hj2:=(List.getElem?_eq_some_iff.1 h2).1
   exact hck r0 (List.mem_of_getElem? h2) (0+j) (by omega)
 unfold batE
 rw [if_pos (by unfold ox;rw [if_pos ho];exact tp hall),if_neg (by omega)]
theorem Ix {r:Rc} {t:Int} {K:Nat} (hK:∀ j:Nat,j < 100->(encB { r with off:=((j:Nat):Int) } t).length=K):∀ (n k:Nat),k+n<=100->((fw k (List.replicate n r)).flatMap fun r=>encB r t).length=n * K
 | 0,_,_=>by simp [fw]
 | n+1,k,h=>by
  rw [List.replicate_succ,fw,List.flatMap_cons,List.length_append,hK k (by omega),Ix hK n (k+1) (by omega),Nat.succ_mul]
  omega
def repB (base:Int) (n:Nat) (r:Rc):Bt:=aq base 0 0 (List.replicate n r)
theorem Eu {base:Int} {n:Nat} {r:Rc} (hn:1<=n):ba (repB base n r)=r.time:=by
 obtain ⟨m,rfl⟩:∃ m,n=m+1:=⟨n - 1,by omega⟩
 rfl
theorem zn {base:Int} {n:Nat} {r:Rc} (hn:1<=n):(repB base n r).span=((n:Nat):Int):=by
 show max (((List.replicate n r).length:Nat):Int) 1=_
 rw [List.length_replicate]
 omega
theorem xy {base:Int} {n K:Nat} {r:Rc} (hn:1<=n/\n<=100) (hK:∀ j:Nat,j < 100->(encB { r with off:=((j:Nat):Int) } r.time).length=K):(batB (repB base n r)).length=48+n * K:=by
 rw [C5,Eu hn.1]
 show 48+((fw 0 (List.replicate n r)).flatMap fun x=>encB x r.time).length=_
 rw [Ix hK n 0 (by omega)]
theorem Iy {base:Int} {n K:Nat} {r:Rc} (hn:1<=n/\n<=100) (hb:0<=base/\base<=1125899906842624) (hck:∀ j:Nat,j < 100->ckE { r with off:=((j:Nat):Int) }=0) (hK:∀ j:Nat,j < 100->(encB { r with off:=((j:Nat):Int) } r.time).length=K) (hfit:48+n * K<=6000):batE (repB base n r)=0:=by
 have hl:(List.replicate n r).length=n:=List.length_replicate
 refine Mg (by rw [hl];exact hn) hb (by decide) (by decide) (fun x hx j hj=>by rw [List.eq_of_mem_replicate hx];exact hck j hj) ?_
 have h:=xy (base:=base) hn hK
 unfold repB at h
 rw [h]
 exact hfit
theorem Sz {n:Nat} (h:127 < n) (h2:n < 16384):(vint n).length=2:=by
 rw [xm h,List.length_cons,lw (by omega)]
 rfl
theorem Iz {n:Nat} (h:n<=127):(vint n).length=1:=by rw [lw (by omega)];rfl
theorem zig_0 :zigN 0=0:=by decide +kernel
def recS (key val:aa) (t:Int):Rc:=⟨!decide (key=[]),key,true,val,t,0⟩
theorem I0 {key val:aa} {t:Int} (ht:0<=t/\t<=1125899906842624) (hk:key.length<=2000) (hv:val.length<=2000):∀ j:Nat,j < 100->ckE { recS key val t with off:=((j:Nat):Int) }=0:=fun j hj=>by
 refine (ck0 ?_ ?_).symm
 ·show ((!(!decide (key=[])) && !decide (key=[])) || (!true && !decide (val=[])) || decide (t < 0) || decide (1125899906842624 < t) || decide (((j:Nat):Int) < 0) || decide (100<=((j:Nat):Int)))=false
  rw [decide_eq_false (p:=t < 0) (by omega),decide_eq_false (p:=1125899906842624 < t) (by omega),decide_eq_false (p:=((j:Nat):Int) < 0) (by omega),decide_eq_false (p:=100<=((j:Nat):Int)) (by omega)]
  cases decide (key=[])<;>rfl
 ·show (decide ((2000:Int) < ((key.length:Nat):Int)) || decide ((2000:Int) < ((val.length:Nat):Int)))=false
  rw [decide_eq_false (by omega),decide_eq_false (by omega)]
  rfl
theorem C6 {key val:aa} {t:Int} (j:Nat) (hj:j < 100):(encB { recS key val t with off:=((j:Nat):Int) } t).length=3+(if key=[] then 0 else (vint key.length).length+key.length)+((vint val.length).length+val.length):=by
 have h1:(vint (((j:Nat):Int)).toNat).length=1:=Iz (by omega)
 have h2:(vint (zigN (t - t))).length=1:=by rw [Int.sub_self,zig_0];exact Iz (by decide)
 unfold encB flB txtB
 show ((_:aa)++(vint (((j:Nat):Int)).toNat++(vint (zigN (t - t))++((if (!decide (key=[]))=true then vint key.length++key else [])++(if true=true then vint val.length++val else []))))).length=_
 rw [List.length_append,List.length_append,List.length_append,List.length_append,h1,h2,if_pos rfl,List.length_append]
 by_cases hk:key=[]
 ·subst hk
  simp
  omega
 ·rw [if_neg hk,if_pos (by simp [hk]),List.length_append]
  simp
  omega
def cp (n c:Nat):aa:=(List.range n).map fun i=>UInt8.ofNat (c+i / 7)
theorem iq (n c:Nat):(cp n c).length=n:=by simp [cp]
def l3 (f:Nat->UInt8) (n k:Nat):aa:=(List.range n).map fun j=>if j < k then f j else 0
theorem zo (f:Nat->UInt8) (n k:Nat):(l3 f n k).length=n:=by simp [l3]
theorem Ev (f:Nat->UInt8) (n:Nat):l3 f n 0=List.replicate n 0:=by
 unfold l3
 simp only [Nat.not_lt_zero,if_false]
 rw [List.map_const',List.length_range]
theorem I1 (f:Nat->UInt8) (n:Nat):l3 f n n=(List.range n).map f:=by
 unfold l3
 apply List.map_congr_left
 intro j hj
 rw [if_pos (List.mem_range.1 hj)]
theorem I2 (f:Nat->UInt8) {n k:Nat} (h:k < n):(l3 f n k).set k (f k)=l3 f n (k+1):=by
 apply List.ext_getElem
 ·simp [l3]
 ·intro j h1 h2
  simp only [l3,List.getElem_set,List.getElem_map,List.getElem_range]
  by_cases hj:k=j
  ·subst hj;rw [if_pos rfl,if_pos (by omega)]
  ·rw [if_neg hj]
   by_cases h3:j < k
   ·rw [if_pos h3,if_pos (by omega)]
   ·rw [if_neg h3,if_neg (by omega)]
theorem Ew (v:Nat):Value.int .u8 (IntKind.u8.wrap (v:Int))=bv (UInt8.ofNat v):=by
 unfold bv
 rw [IntKind.wrap_u8,UInt8.toNat_ofNat']
 congr 1
theorem I3 {n c:Nat} (hn:n<=100000) (hc:c<=100000):Spec Tryz.prog 48 #[.int .i64 (n:Int),.int .i64 (c:Int)] [] fun F v M=>∃ b,v=.slice (some ⟨b,0,none⟩) n n/\M=buf b 5 n (bvs (cp n c)) :: F:=by
 refine Spec.intro Tryz.func48 rfl rfl fun B F=>?_
 simp only [Tryz.ntmps48,List.cons_append,List.nil_append,env0,Nat.reduceAdd]
 refine .sr (.assign (.x (.move ?_)))
 refine .mkS (k:=(n:Int)) z5 (fun b8=>?_) so79 (by omega) (by omega) (by omega)
 refine .cast (d:=8) (u:=.slice (some ⟨b8,0,none⟩) n n) rfl (by rw [Int.toNat_natCast]) ?_
 refine .to (A:=buf b8 5 (n:Int).toNat (List.replicate (n:Int).toNat (.int .u8 0))) (A':=buf b8 5 n (bvs (l3 (fun i=>UInt8.ofNat (c+i / 7)) n 0))) (fun h hh=>by rw [Ev,av];rw [Int.toNat_natCast] at hh;exact hh) ?_
 refine .assign (.z (.seq (.sr (.assign (.z (.block ?_))))))
 refine .loopA (σ:=Nat) (fun i=>[(0,.int .i64 (n:Int)),(1,.int .i64 (c:Int)),(5,.slice (some ⟨b8,0,none⟩) n n),(6,.int .i64 (i:Int))]) (fun i=>buf b8 5 n (bvs (l3 (fun i=>UInt8.ofNat (c+i / 7)) n i)) :: F) (fun i=>i<=n) (fun i=>n - i) 0 (Nat.zero_le _) ?_
 rintro i hi
 refine .seq (.sr (.move (.move ?_)))
 refine .lss ?_
 refine .z ?_
 refine .cond rfl (fun hb=>?_) (fun hb=>?_)
 ·have hlt:i < n:=by have:=of_decide_eq_true hb;omega
  refine .skip (.next (.seq (.block (.region (.move (.move (.move (.move ?_))))))))
  refine .quo ?_
  refine .add ?_
  refine .cast (d:=19) (u:=.int .i64 ((c+i / 7:Nat):Int)) rfl (cI9 (by omega)) ?_
  refine .cvt ?_ un3 un5
  refine .cast (d:=20) (u:=bv (UInt8.ofNat (c+i / 7))) rfl (Ew _) ?_
  refine .idx1 ?_ so79
  refine .stB ?_ sc5 (show 0+((i:Nat):Int).toNat < (bvs (l3 (fun i=>UInt8.ofNat (c+i / 7)) n i)).length by rw [ae,zo];omega)
  refine .nil (.blockNormal (.next (.region (.move ?_))))
  refine .add ?_
  refine .assign (.nil ?_)
  refine .to (A:=buf b8 5 n ((bvs (l3 (fun i=>UInt8.ofNat (c+i / 7)) n i)).set (0+((i:Nat):Int).toNat) (bv (UInt8.ofNat (c+i / 7))))) (A':=buf b8 5 n (bvs (l3 (fun i=>UInt8.ofNat (c+i / 7)) n (i+1)))) (fun h hh=>by rw [<- I2 (fun i=>UInt8.ofNat (c+i / 7)) hlt,pa];rw [show 0+((i:Nat):Int).toNat=i from by omega] at hh;exact hh) ?_
  refine .cast (d:=6) (u:=.int .i64 ((i+1:Nat):Int)) rfl (cI9 (by omega)) ?_
  exact .back (i+1) (by omega) (by omega)
 ·have hge:¬ i < n:=by have:=of_decide_eq_false hb;omega
  have hin:i=n:=by omega
  subst hin
  refine .exit (.thenExit (.thenExit (.blockExit (?_))))
  refine .next (.sr (.move (.assign (.z (.ret (?_))))))
  refine .to (A:=buf b8 5 i (bvs (l3 (fun i=>UInt8.ofNat (c+i / 7)) i i))) (A':=buf b8 5 i (bvs (cp i c))) (fun h hh=>by rw [I1] at hh;exact hh) ?_
  exact .ret1 (h1:=.tmp (t:=4) rfl) ⟨_,⟨b8,rfl,rfl⟩,Am.auto⟩
theorem z23 :ax Tryz.prog 23=some (#[.int .i64 0,.int .i64 0,.int .i64 0,.bool false,.int .i64 0]):=by kernel_rfl
def pE (n ino:Nat):Pl:=⟨n,ino,246,247,248,248+(ino+7) / 8,n - (248+(ino+7) / 8)⟩
theorem pE_is {n ino:Nat} (h1:1<=ino) (h2:ino<=4096) (hn:249+(ino+7) / 8<=n) (hn2:n<=4000):PlIs (pE n ino):=by
 refine ⟨?_,?_,?_,?_,?_,?_,?_,?_,?_,?_,?_⟩
 all_goals (simp only [pE];try first | omega | (left;omega))
theorem p15_is :PlIs (pE 1500 250):=pE_is (by decide) (by decide) (by decide) (by decide)
theorem Bi :PlP (pE 1500 250):=⟨p15_is.ok,by decide,.inr (by decide)⟩
theorem S0 (a:Bool) (s t:ByteArray) (x:Int):bg Tryz.prog 95 [(0,.bool a),(1,.string s),(2,.bool true),(3,.string t),(4,.int .i64 x)] #[.bool a,.string s,.bool true,.string t,.int .i64 x,.int .i64 0]:=fun w=>by kernel_rfl
def stPlain :Sts:=⟨600,-1,-1,false,0⟩
theorem C7 :Spec Tryz.prog 13 #[] [] fun F v M=>v=.agg stPlain.v.toArray/\M=F:=by
 refine Spec.intro Tryz.func13 rfl rfl fun B F=>?_
 simp only [Tryz.ntmps13,List.cons_append,List.nil_append,env0,Nat.reduceAdd]
 refine .sr ?_
 refine .alloc z23 fun b0=>?_
 refine .x ?_
 refine .build ?_ Ly
 refine .stV ?_ uk
 refine .z (.ret (?_))
 exact .ret1 ⟨_,⟨rfl,rfl⟩,Am.auto⟩
theorem I4 {n size:Nat} {key:aa} {t:Int} (hn:1<=n/\n<=100) (hs:size<=2000):Spec Tryz.prog 17 #[.int .i64 ((n:Nat):Int),sv key,.int .i64 ((size:Nat):Int),.int .i64 t] [] fun F v M=>∃ A c,v=.slice (some A) (List.replicate n (recS key (cp size 65) t)).length c/\M=rowR 95 6 v n ((List.replicate n (recS key (cp size 65) t)).flatMap Rc.v) :: F:=by
 refine Spec.intro Tryz.func17 rfl rfl fun B F=>?_
 simp only [Tryz.ntmps17,List.cons_append,List.nil_append,env0,Nat.reduceAdd]
 refine .sr (.assign (.x (.assign (.z (.seq (.sr (.assign (.z (.block ?_)))))))))
 refine .emp (A:=rowR 95 6 (.slice none 0 0) 0 ((List.replicate 0 (recS key (cp size 65) t)).flatMap Rc.v)) (rowR.nil _) ?_
 refine .loopA (σ:=Nat×Value) (fun y=>[(0,.int .i64 ((n:Nat):Int)),(1,sv key),(2,.int .i64 ((size:Nat):Int)),(3,.int .i64 t),(9,y.2),(10,.int .i64 ((y.1:Nat):Int))]) (fun y=>[rowR 95 6 y.2 y.1 ((List.replicate y.1 (recS key (cp size 65) t)).flatMap Rc.v)]++F) (fun y=>y.1<=n) (fun y=>n - y.1) (0,.slice none 0 0) (Nat.zero_le _) ?_
 rintro y hy
 obtain ⟨i,u⟩:=y
 simp only at hy ⊢
 refine .seq (.sr (.move (.move ?_)))
 refine .lss ?_
 refine .z ?_
 refine .cond rfl (fun hd=>?_) (fun hd=>?_)
 ·have hin:i < n:=by have h:((i:Nat):Int) < ((n:Nat):Int):=of_decide_eq_true hd;omega
  refine .skip (.next (.seq (.block (.region (.move (.move ?_))))))
  refine .neS key [] ?_
  refine .move (.move ?_)
  refine .call (hc:=Tryz.call48) (sp:=I3 (n:=size) (c:=65) (by omega) (by decide)) (h:=?_)
  rintro _ _ ⟨bq,rfl,rfl⟩
  refine .cvtBS (xs:=cp size 65) ?_ by79 st9 Reads.buf (iq _ _)
  refine .move ?_
  refine .build ?_ (S0 _ _ _ _)
  refine .buildS (fun b25=>?_) (Sc _ _ _ _ _ _)
  refine .append (v:=u) (m:=1) (k:=i) (xs:=(List.replicate i (recS key (cp size 65) t)).flatMap Rc.v) (news:=Rc.v (recS key (cp size 65) t)) so37 (by decide) (by repeat (first | exact .here | apply Rem.there | apply Repl.there | apply Mem.there)) (Reads.pt (cs:=(Rc.v (recS key (cp size 65) t)).toArray)) (by repeat (first | exact .here | apply Rem.there | apply Repl.there | apply Mem.there)) rfl (by simp [Rc.v,Value.single,sv,recS]) (by unfold maxLen;omega) (by omega) ⟨_,z95,rfl⟩ (fun v' hv'=>?_)
  rw [show (List.replicate i (recS key (cp size 65) t)).flatMap Rc.v++Rc.v (recS key (cp size 65) t)=(List.replicate (i+1) (recS key (cp size 65) t)).flatMap Rc.v by rw [List.replicate_succ',List.flatMap_append,List.flatMap_singleton]]
  refine .assign (.nil (.blockNormal (.next (.region (.move ?_)))))
  refine .add ?_
  refine .assign (.nil ?_)
  exact .back (i+1,v') (show i+1<=n from hin) (show n - (i+1) < n - i by omega)
 ·have hge:i=n:=by have h:¬ ((i:Nat):Int) < ((n:Nat):Int):=of_decide_eq_false hd;omega
  subst hge
  refine .fact (ag (el:=95) (size:=6) (k:=i) (v:=u) (xs:=(List.replicate i (recS key (cp size 65) t)).flatMap Rc.v)) fun ⟨A5,c5,hv5,hR5,_,_,_⟩=>?_
  subst hv5
  obtain ⟨A,rfl⟩:∃ A,A5=some A:=by
   cases A5 with
   | none =>
    have h0:(List.replicate i (recS key (cp size 65) t)).flatMap Rc.v=[]:=hR5
    have h1:=a7 Rc.v_len (List.replicate i (recS key (cp size 65) t))
    rw [h0,List.length_replicate] at h1
    simp at h1
    omega
   | some a=>exact ⟨a,rfl⟩
  refine .exit (.thenExit (.thenExit (.blockExit (?_))))
  refine .next (.sr (.move (.assign (.z (.ret (?_))))))
  exact .ret1 (h1:=.tmp (t:=8) rfl) ⟨_,⟨A,c5,by rw [List.length_replicate],rfl⟩,Am.auto⟩
theorem C8 {st:Sts} (hst:er st=true):Spec Tryz.prog 14 #[.agg st.v.toArray] [] fun F v M=>∃ d f pp,v=.tuple #[.pointer (some ⟨d,0,none⟩),.pointer (some ⟨f,0,none⟩),.pointer (some ⟨pp,0,none⟩),.bool true]/\M=PT pp f [112] st [] [(0,[])] :: DRF f (pE 1500 250) [112] 1 [(0,[])] :: F:=by
 refine Spec.intro Tryz.func14 rfl rfl fun B F=>?_
 simp only [Tryz.ntmps14,List.cons_append,List.nil_append,env0,Nat.reduceAdd]
 refine .sr ?_
 refine .box fun b1=>?_
 refine .assign (.assign (.assign (.assign (.x ?_))))
 refine .call (hc:=Tryz.call35) (sp:=Qi (n:=1500) (by decide) (by decide)) (h:=?_)
 rintro _ _ ⟨d,rfl,rfl⟩
 refine .move ?_
 refine .extract (.extract ?_)
 refine .assign (.assign (.z (.seq (.sr (.move ?_)))))
 refine .nei ?_
 refine .move (.gT (.move (.gT ?_)))
 refine .eqNil ?_ Fc
 refine .pickF (.move (.gT (.move (.gT ?_))))
 refine .call (hc:=Tryz.call36) (sp:=Ss p15_is) (h:=?_)
 rintro _ _ ⟨J,rfl,hJ,rfl⟩
 refine .gT ?_
 refine .nei ?_
 refine .pickF (.z ?_)
 refine .condF rfl (cB9 (by first|simp;done|simp;omega|omega)) ?_
 refine .skip (.next (.sr (.move ?_)))
 refine .call (hc:=Tryz.call37) (sp:=Eo p15_is hJ) (h:=?_)
 rintro _ _ ⟨f,rfl,rfl⟩
 refine .move ?_
 refine .extract (.extract ?_)
 refine .assign (.assign (.z (.seq (.sr (.move ?_)))))
 refine .nei ?_
 refine .move (.gT (.move (.gT ?_)))
 refine .eqNil ?_ ui
 refine .pickF (.move (.gT (.move (.gT ?_))))
 refine .ldA ?_ uk
 refine .gT ?_
 refine .call (hc:=Tryz.call29) (sp:=Mf (f:=f) (dn:=[112]) (st:=st) Bi (by decide) (by decide) hst) (h:=?_)
 rintro _ _ ⟨rfl,rfl⟩
 refine .gT ?_
 refine .nei ?_
 refine .pickF (.z ?_)
 refine .condF rfl (cB9 (by first|simp;done|simp;omega|omega)) ?_
 refine .skip (.next (.sr (.move ?_)))
 refine .ldA ?_ uk
 refine .call (hc:=Tryz.call30) (sp:=Bh (f:=f) (N:=1) (dn:=[112]) (st:=st) Bi (by decide) ⟨by decide,by decide,by decide,by decide⟩ hst) (h:=?_)
 rintro _ _ ⟨pp,rfl,rfl⟩
 refine .move ?_
 refine .extract (.extract ?_)
 refine .assign (.assign (.x (.move (.move (.move (.move ?_))))))
 refine .eqi ?_
 refine .move (.gT (.move (.gT ?_)))
 refine .neNil ?_ So
 refine .pickT (.assign (.assign (.assign (.assign (.z ?_)))))
 refine .ret (?_)
 exact .ret4 (h1:=.tmp (t:=2) rfl) (h2:=.tmp (t:=3) rfl) (h3:=.tmp (t:=4) rfl) (h4:=.tmp (t:=5) rfl) ⟨_,⟨d,f,pp,rfl,rfl⟩,Am.auto⟩
def ownT (r:Nat->Rc) (w k:Nat):List SegA:=(List.range k).map fun j=>(w+j,[repB (((w+j:Nat)):Int) 1 (r (w+j))])
theorem ua (r:Nat->Rc) (w k:Nat):ownT r w (k+1)=(w,[repB ((w:Nat):Int) 1 (r w)]) :: ownT r (w+1) k:=by
 unfold ownT
 rw [List.range_succ_eq_map,List.map_cons,List.map_map]
 congr 1
 refine List.map_congr_left fun j _=>?_
 show (w+(j+1),[repB (((w+(j+1):Nat)):Int) 1 (r (w+(j+1)))])=_
 rw [show w+(j+1)=w+1+j by omega]
theorem ub (r:Nat->Rc) (w k:Nat):ownT r w (k+1)=ownT r w k++[(w+k,[repB (((w+k:Nat)):Int) 1 (r (w+k))])]:=by
 unfold ownT
 rw [List.range_succ,List.map_append]
 rfl
theorem o0 (r:Nat->Rc) (w k:Nat):(ownT r w k).length=k:=by simp [ownT]
theorem Mh {r:Nat->Rc} {w k:Nat} {y:SegA} (h:y∈ownT r w k):∃ j,j < k/\y=(w+j,[repB (((w+j:Nat)):Int) 1 (r (w+j))]):=by
 unfold ownT at h
 obtain ⟨j,hj,rfl⟩:=List.mem_map.1 h
 exact ⟨j,List.mem_range.1 hj,rfl⟩
def ownS (r:Nat->Rc) (n:Nat):List SegA:=if n=0 then [(0,[])] else ownT r 0 n
theorem P0 (i:Nat) (b:Bt):byt (i,[b])=batB b:=by unfold byt;simp
theorem xz {r:Nat->Rc} {m:Nat} (hr:∀ j:Nat,(batB (repB ((j:Nat):Int) 1 (r j))).length=m):∀ (k w:Nat),bytT (ownT r w k)=k * m
 | 0,_=>by simp [ownT,bytT]
 | k+1,w=>by
  rw [ua]
  have h:=xz hr k (w+1)
  unfold bytT at h ⊢
  rw [List.map_cons,List.sum_cons,h,P0,hr,Nat.succ_mul]
  omega
theorem I5 {r:Nat->Rc} {w k:Nat}:(ownT r w (k+1)).take k=ownT r w k:=by
 rw [ub,List.take_append_of_le_length (by rw [o0];exact Nat.le_refl _),List.take_of_length_le (by rw [o0];exact Nat.le_refl _)]
structure OwnR (r:Nat->Rc) (m:Nat):Prop where
 len:∀ j:Nat,(batB (repB ((j:Nat):Int) 1 (r j))).length=m
 ok:∀ j:Nat,j<=1000->batE (repB ((j:Nat):Int) 1 (r j))=0
 big:512 < m+m/\m<=1400
 t:∀ j:Nat,j<=1000->0<=(r j).time/\(r j).time<=1125899906842624
theorem OwnR.of {key val:Nat->aa} {t:Nat->Int} {K:Nat} (hk:∀ j,(key j).length<=100) (hK:∀ j,3+(if key j=[] then 0 else (vint (key j).length).length+(key j).length)+((vint (val j).length).length+(val j).length)=K) (ht:∀ j:Nat,j<=1000->0<=t j/\t j<=1125899906842624) (hb:512 < (48+K)+(48+K)/\48+K<=1400):OwnR (fun j=>recS (key j) (val j) (t j)) (48+K):=by
 have hv:∀ j,(val j).length<=2000:=fun j=>by have:=hK j;omega
 have hKK:∀ i j:Nat,j < 100->(encB { recS (key i) (val i) (t i) with off:=((j:Nat):Int) } (recS (key i) (val i) (t i)).time).length=K:=fun i j hj=>by
  rw [<- hK i]
  exact C6 j hj
 refine ⟨fun j=>?_,fun j hj=>?_,hb,ht⟩
 ·rw [xy ⟨by decide,by decide⟩ (hKK j),Nat.one_mul]
 ·exact Iy ⟨by decide,by decide⟩ ⟨by omega,by omega⟩ (I0 (ht j hj) (by have:=hk j;omega) (hv j)) (hKK j) (by omega)
theorem repB_next {base:Nat} {i:Int} {r:Rc}:i3 i [repB ((base:Nat):Int) 1 r]=(((base+1:Nat)):Int):=by
 show ((base:Nat):Int)+(repB ((base:Nat):Int) 1 r).span=_
 rw [zn (by decide)]
 omega
theorem I6 {base:Int} {r:Rc} (h:0<=r.time):t8 (-1) [repB base 1 r]=r.time:=by
 show zl (-1) [{ r with off:=((0:Nat):Int) }]=r.time
 unfold zl zl
 show (if -1 < r.time then r.time else -1)=r.time
 rw [if_pos (by omega)]
theorem zp {r:Nat->Rc} {m:Nat} (h:OwnR r m) {w k N:Nat} {p:Pl} (hk:k<=50) (hN:N<=200) (hi:N+3<=p.ino):FitsP p N (ownT r w k) :=
 ⟨hN,hi,by rw [o0];omega,by rw [xz h.len];have:=h.big;have h2:=Nat.mul_le_mul hk (show m<=1400 by omega);omega⟩
theorem I7 {N:Nat} {p:Pl} (hN:N<=200) (hi:N+3<=p.ino):FitsP p N [(0,[])]:=⟨hN,hi,by decide,by decide⟩
theorem I8 {pp f n N c m:Nat} {dn:aa} {st:Sts} {p:Pl} {r:Nat->Rc} {A:Addr} {R:HP} (hp:PlP p) (h:OwnR r m) (hsg:st.seg=512) (hn:n<=45) (hN1:N+1<=200) (hN2:N+4<=p.ino) (hdn:dn.length<=900) (hR:Reads R (some A) ([r n].flatMap Rc.v)) :
  Spec Tryz.prog 16 #[.pointer (some ⟨pp,0,none⟩),.int .i64 0,.int .i64 0,.slice (some A) 1 c] [PT pp f dn st [] (ownS r n),DRF f p dn N (ownS r n),R] fun F v M=>v=.tuple #[.int .i64 ((n:Nat):Int),.int .i64 0]/\M=PT pp f dn st [] (ownS r (n+1)) :: DRF f p dn (N+1) (ownS r (n+1)) :: R :: F:=by
 cases n with
 | zero =>
  have h1:=vn (pp:=pp) (f:=f) (N:=N) (base:=0) (nb:=0) (c:=c) (dn:=dn) (st:=st) (p:=p) (pre:=[]) (bs:=[]) (A:=A) (R:=R) (prod:=0) (seq:=0) (l:=[r 0]) hp (I7 (by omega) (by omega)) hN1 hN2 (by decide) hdn hR (by simp) (by simp) (h.ok 0 (by decide)) rfl (fun y hy=>by rw [List.mem_singleton.1 hy];exact ⟨by decide,fun h=>absurd rfl h⟩) (by decide) (by decide)
  have e:addP st.seg [] 0 [] (aq ((0:Nat):Int) 0 0 [r 0])=ownS r 1:=by
   unfold addP
   rw [if_pos (.inl rfl)]
   rfl
  rw [e] at h1
  exact h1
 | succ n =>
  have hs:ownS r (n+1)=ownT r 0 n++[(n,[repB ((n:Nat):Int) 1 (r n)])]:=by
   show ownT r 0 (n+1)=_
   rw [ub,Nat.zero_add]
  have hf:FitsP p N (ownT r 0 n++[(n,[repB ((n:Nat):Int) 1 (r n)])]):=by
   rw [<- hs]
   exact zp h (by omega) (by omega) (by omega)
  have h1:=vn (pp:=pp) (f:=f) (N:=N) (base:=n) (nb:=n+1) (c:=c) (dn:=dn) (st:=st) (p:=p) (pre:=ownT r 0 n) (bs:=[repB ((n:Nat):Int) 1 (r n)]) (A:=A) (R:=R) (prod:=0) (seq:=0) (l:=[r (n+1)]) hp hf hN1 hN2 (by rw [o0];omega) hdn hR (by simp) (by simp) (h.ok (n+1) (by omega)) repB_next.symm (fun y hy=>by
   rcases List.mem_append.1 hy with hy | hy
   ·obtain ⟨j,hj,rfl⟩:=Mh hy
    exact ⟨by show 0+j<=_;omega,fun _=>by show ((0+j:Nat):Int) < _;omega⟩
   ·rw [List.mem_singleton.1 hy]
    exact ⟨by show n<=_;omega,fun _=>by show ((n:Nat):Int) < _;omega⟩) (by simp) (by rw [List.flatMap_singleton,h.len];have:=h.big;omega)
  have e:addP st.seg (ownT r 0 n) n [repB ((n:Nat):Int) 1 (r n)] (aq (((n+1:Nat)):Int) 0 0 [r (n+1)])=ownS r (n+2):=by
   unfold addP
   have hl2:=h.len (n+1)
   have hbig:=h.big
   rw [show aq (((n+1:Nat)):Int) 0 0 [r (n+1)]=repB (((n+1:Nat)):Int) 1 (r (n+1)) from rfl,List.flatMap_singleton,h.len,hl2,if_neg (by omega),<-hs]
   show ownS r (n+1)++[((((n+1:Nat)):Int).toNat,_)]=ownT r 0 (n+2)
   rw [Int.toNat_natCast,ub (k:=n+1),Nat.zero_add]
   rfl
  rw [e,<-hs] at h1
  exact h1
def Bj (st:Sts) (now:Int) (r:Nat->Rc) (m w k:Nat):Bool:=!decide (k=0) && ((decide (0<=st.age) && decide ((r w).time+st.age < now)) || (decide (0<=st.bytes) && decide (st.bytes < ((k * m:Nat):Int))))
theorem uc {pp f w k N m:Nat} {dn:aa} {st:Sts} {p:Pl} {r:Nat->Rc} {dp:List Value} {now:Int} (hp:PlP p) (h:OwnR r m) (hst:er st=true) (hk:w+k<=45) (hN1:N<=200) (hN2:N+3<=p.ino) (hdn:dn.length<=900) (hnow:-9223372036854775808<=now/\now<=9223372036854775807) :
  Spec Tryz.prog 32 #[.pointer (some ⟨pp,0,none⟩),.int .i64 now] [PT pp f dn st dp (ownT r w (k+1)),DRF f p dn N (ownT r w (k+1))] fun F v M=>(Bj st now r m w k=false/\v=.tuple #[.bool false,.int .i64 0]/\M=PT pp f dn st dp (ownT r w (k+1)) :: DRF f p dn N (ownT r w (k+1)) :: F) ∨ (Bj st now r m w k=true/\∃ x,v=.tuple #[.bool true,.int .i64 0]/\M=PT pp f dn st (dp++[x]) (ownT r (w+1) k) :: DRF f p dn N (ownT r (w+1) k) :: F):=by
 have hc:=ua r w k
 have ht:=h.t w (by omega)
 have hl:=I6 (base:=((w:Nat):Int)) ht.1
 have hf:FitsP p N ((w,[repB ((w:Nat):Int) 1 (r w)]) :: ownT r (w+1) k):=by
  rw [<- hc]
  exact zp h (by omega) hN1 hN2
 have e:nk st now (w,[repB ((w:Nat):Int) 1 (r w)]) (ownT r (w+1) k)=Bj st now r m w k:=by
  have hlen:=o0 r (w+1) k
  unfold nk mo mq Bj
  rw [hl,hlen,<-hc,I5,xz h.len]
  congr 2
  cases k with
  | zero=>rfl
  | succ k=>rw [ua];rfl
 have h1:=Et (pp:=pp) (f:=f) (N:=N) (p:=p) (dn:=dn) (st:=st) (dp:=dp) (now:=now) (y:=(w,[repB ((w:Nat):Int) 1 (r w)])) (post:=ownT r (w+1) k) hp hf hdn hst hnow (by show w<=_;omega) (by show 1<=_;decide) (fun b hb=>by
  rw [List.mem_singleton.1 hb]
  refine ⟨⟨by show (0:Int)<=((w:Nat):Int);omega,by show ((w:Nat):Int)<=_;omega⟩,fun x hx=>?_⟩
  have hx2:x∈[{ r w with off:=((0:Nat):Int) }]:=hx
  rw [List.mem_singleton.1 hx2]
  exact ⟨show (0:Int)<=((0:Nat):Int) by decide,show ((0:Nat):Int)<=1000 by decide⟩) (fun _=>by rw [hl];exact ht)
 rw [<- hc,e] at h1
 exact h1
theorem qz :Spec Tryz.prog 12 #[] [] fun F v M=>v=.bool true/\M=F:=by
 refine Spec.intro Tryz.func12 rfl rfl fun B F=>?_
 simp only [Tryz.ntmps12,List.cons_append,List.nil_append,env0,Nat.reduceAdd]
 have hown:OwnR (fun _=>recS [] (cp 300 65) 0) (48+305):=OwnR.of (key:=fun _=>[]) (val:=fun _=>cp 300 65) (t:=fun _=>0) (fun _=>by decide) (fun _=>by rw [if_pos rfl,iq,Sz (by decide) (by decide)]) (fun _ _=>by decide) (by decide)
 obtain ⟨st,hstd⟩:∃ st:Sts,st=⟨512,0,-1,false,0⟩:=⟨_,rfl⟩
 have hst:er st=true:=by rw [hstd];decide
 have hsg:st.seg=512:=by rw [hstd]
 refine .sr (.assign (.x ?_))
 refine .call (hc:=Tryz.call13) (sp:=C7) (h:=?_)
 rintro _ _ ⟨rfl,hM⟩
 obtain rfl:=hM.symm
 refine .alloc z23 fun b1=>?_
 refine .stV ?_ uk
 refine .x ?_
 refine .fa ?_ ve
 refine .st ?_ sc3
 refine .x ?_
 refine .fa ?_ jj
 refine .st ?_ sc3
 refine .x ?_
 refine .ldA ?_ uk
 refine .cast (d:=19) (u:=.agg st.v.toArray) rfl (by rw [hstd];rfl) ?_
 refine .call (hc:=Tryz.call14) (sp:=C8 (st:=st) hst) (h:=?_)
 rintro _ _ ⟨d,f,pp,rfl,rfl⟩
 refine .move ?_
 refine .extract (.extract (.extract (.extract ?_)))
 refine .assign (.assign (.assign (.assign (.z (.seq (.sr (.move ?_)))))))
 refine .not ?_
 refine .z ?_
 refine .condF rfl rfl ?_
 refine .skip (.next (.seq (.sr (.assign (.z (.block ?_))))))
 refine .to (A:=PT pp f [112] st [] [(0,[])]) (A':=PT pp f [112] st [] (ownS (fun _=>recS [] (cp 300 65) 0) 0)) (fun h hh=>hh) ?_
 refine .to (A:=DRF f (pE 1500 250) [112] 1 [(0,[])]) (A':=DRF f (pE 1500 250) [112] (0+1) (ownS (fun _=>recS [] (cp 300 65) 0) 0)) (fun h hh=>hh) ?_
 refine .loopA (σ:=Nat) (fun i=>[(4,.pointer (some ⟨pp,0,none⟩)),(6,.int .i64 ((i:Nat):Int))]) (fun i=>[PT pp f [112] st [] (ownS (fun _=>recS [] (cp 300 65) 0) i),DRF f (pE 1500 250) [112] (i+1) (ownS (fun _=>recS [] (cp 300 65) 0) i)]++F) (fun i=>i<=3) (fun i=>3 - i) 0 (Nat.zero_le _) ?_
 rintro i hi
 refine .seq (.sr (.move ?_))
 refine .lss ?_
 refine .z ?_
 refine .cond rfl (fun hd=>?_) (fun hd=>?_)
 ·have hi3:i < 3:=by have h:((i:Nat):Int) < 3:=of_decide_eq_true hd;omega
  refine .skip (.next (.seq (.block (.sr (.move ?_)))))
  refine .call (hc:=Tryz.call17) (sp:=I4 (n:=1) (size:=300) (key:=[]) (t:=0) (by decide) (by decide)) (h:=?_)
  rintro _ _ ⟨A1,c1,rfl,rfl⟩
  refine .fact (ag (el:=95) (size:=6) (k:=1) (v:=.slice (some A1) (List.replicate 1 (recS [] (cp 300 65) 0)).length c1) (xs:=(List.replicate 1 (recS [] (cp 300 65) 0)).flatMap Rc.v)) fun ⟨A5,c5,hv5,hR5,_,_,_⟩=>?_
  injection hv5 with hA5 _ hc5
  subst hA5
  subst hc5
  refine .call (hc:=Tryz.call16) (sp:=I8 (dn:=[112]) (n:=i) (N:=i+1) (r:=(fun _=>recS [] (cp 300 65) 0)) Bi hown hsg (by omega) (by omega) (by show i+1+4<=250;omega) (by decide) hR5) (h:=?_)
  rintro _ _ ⟨rfl,rfl⟩
  refine .move ?_
  refine .extract (.extract (.assign (.assign (.x (.move ?_)))))
  refine .nei ?_
  refine .move (.gT (.move (.gT (.move (.gT ?_)))))
  refine .nei ?_
  refine .pickF (.z ?_)
  refine .condF rfl (cB9 (by first | (exact decide_eq_true (by omega)) | (exact decide_eq_false (by omega)) | (simp;done) | (simp;omega) | omega)) ?_
  refine .skip (.blockNormal (.next (.region (.move ?_))))
  refine .add ?_
  refine .assign (.nil ?_)
  exact .back (i+1) (show i+1<=3 from hi3) (show 3 - (i+1) < 3 - i by omega)
 ·have hge:i=3:=by have h:¬ ((i:Nat):Int) < 3:=of_decide_eq_false hd;have h2:i<=3:=hi;omega
  subst hge
  refine .to (A:=PT pp f [112] st [] (ownS (fun _=>recS [] (cp 300 65) 0) 3)) (A':=PT pp f [112] st [] (ownT (fun _=>recS [] (cp 300 65) 0) 0 (2+1))) (fun h hh=>hh) ?_
  refine .to (A:=DRF f (pE 1500 250) [112] (3+1) (ownS (fun _=>recS [] (cp 300 65) 0) 3)) (A':=DRF f (pE 1500 250) [112] (3+1) (ownT (fun _=>recS [] (cp 300 65) 0) 0 (2+1))) (fun h hh=>hh) ?_
  refine .exit (.thenExit (.thenExit (.blockExit (?_))))
  refine .next (.sr (.move ?_))
  have hg0:Bj st 0 (fun _=>recS [] (cp 300 65) 0) (48+305) 0 2=true:=by rw [hstd];decide
  refine .call (hc:=Tryz.call32) (sp:=uc (pp:=pp) (f:=f) (N:=3+1) (dn:=[112]) (w:=0) (k:=2) (now:=0) Bi hown hst (by decide) (by decide) (by decide) (by decide) (by decide)) (h:=?_)
  rintro _ _ (⟨h0,_,_⟩ | ⟨_,x0,rfl,rfl⟩)
  ·rw [hg0] at h0;cases h0
  refine .move ?_
  refine .extract (.extract (.assign (.assign (.x (.move ?_)))))
  have hg1:Bj st 0 (fun _=>recS [] (cp 300 65) 0) (48+305) 1 1=true:=by rw [hstd];decide
  refine .call (hc:=Tryz.call32) (sp:=uc (pp:=pp) (f:=f) (N:=3+1) (dn:=[112]) (w:=1) (k:=1) (now:=0) Bi hown hst (by decide) (by decide) (by decide) (by decide) (by decide)) (h:=?_)
  rintro _ _ (⟨h0,_,_⟩ | ⟨_,x1,rfl,rfl⟩)
  ·rw [hg1] at h0;cases h0
  refine .move ?_
  refine .extract (.extract (.assign (.assign (.x (.move ?_)))))
  have hg2:Bj st 0 (fun _=>recS [] (cp 300 65) 0) (48+305) 2 0=false:=by rw [hstd];decide
  refine .call (hc:=Tryz.call32) (sp:=uc (pp:=pp) (f:=f) (N:=3+1) (dn:=[112]) (w:=2) (k:=0) (now:=0) Bi hown hst (by decide) (by decide) (by decide) (by decide) (by decide)) (h:=?_)
  rintro _ _ (⟨_,rfl,rfl⟩ | ⟨h0,_,_,_⟩)
  rotate_left
  ·rw [hg2] at h0;cases h0
  refine .move ?_
  refine .extract (.extract (.assign (.assign (.x (.move ?_)))))
  refine .eqi ?_
  refine .move (.gT (.move (.gT ?_)))
  refine .eqi ?_
  refine .pickT (.move (.gT (.move (.gT ?_))))
  refine .eqi ?_
  refine .pickT (.move (.gT (.move (.pickT (.move ?_)))))
  refine .gT (.move (.pickT (.move (.gT (.move ?_)))))
  refine .gT ?_
  refine .not ?_
  refine .pickT (.move (.gT (.move (.gT ?_))))
  refine .call (hc:=Tryz.call19) (sp:=oz (post:=[]) (y:=(2,[repB ((2:Nat):Int) 1 (recS [] (cp 300 65) 0)])) rfl) (h:=?_)
  rintro _ _ ⟨rfl,rfl⟩
  refine .gT ?_
  refine .eqi ?_
  refine .pickT (.move (.gT (.move (.gT ?_))))
  refine .call (hc:=Tryz.call18) (sp:=oy (pre:=[]) (y:=(2,[repB ((2:Nat):Int) 1 (recS [] (cp 300 65) 0)])) rfl (by decide)) (h:=?_)
  rintro _ _ ⟨rfl,rfl⟩
  rw [repB_next]
  refine .gT ?_
  refine .eqi ?_
  refine .pickT (.assign (.z (.ret (?_))))
  exact .ret1 (h1:=.tmp (t:=0) rfl) ⟨_,⟨rfl,rfl⟩,Am.auto⟩
section
variable {P:Program} {B:Base} {n:Fr} {Q:Exit->Act->World->Prop} {e:Env} {L:List HP}
def S3 (B:Base) (k:Nat) {σ:Type} (ds:σ->List Deferred) (E:σ->Env) (I:σ->List HP) (p:σ->Prop) (μ:σ->Nat) (s:σ):Act->World->Prop :=
 fun a w=>∃ s',p s'/\μ s' < μ s/\Ag ⟨k,ds s'⟩ (E s') a/\Sat B w (I s')
theorem WC.loopD {c:Code} {σ:Type} {k:Nat} {d0:List Deferred} (ds:σ->List Deferred) (E:σ->Env) (I:σ->List HP) (p:σ->Prop) (μ:σ->Nat) (s0:σ) (hp:p s0) (hds:d0=ds s0)
  (round:∀ s,p s->WC P B ⟨k,ds s⟩ c (Exit.then (S3 B k ds E I p μ s) Q) (E s) (I s)) (he:Env.le (E s0) e:=by repeat (first | exact Env.le_nil _ | refine Env.le_cons rfl ?_)) (hI:Am L (I s0):=by repeat (first | exact .refl | exact .nil | (apply Am.take;focus ((repeat (first | exact .here | apply Rem.there));done)) | refine .skip ?_)):WC P B ⟨k,d0⟩ (.loop c) Q e L:=by
 intro a w ha hs
 refine wp_loop_ghost (fun m a w=>∃ s,μ s=m/\p s/\Ag ⟨k,ds s⟩ (E s) a/\Sat B w (I s)) (μ s0) ⟨s0,rfl,hp,by rw [<- hds];exact ha.weak he,hI.wk B w hs⟩ ?_
 rintro m a w ⟨s,rfl,hp,ha,hs⟩
 refine wp_mono (round s hp a w ha hs) ?_
 intro x a' w' hq
 cases x with
 | normal =>
  obtain ⟨s',hp',hlt,ha',hs'⟩:=hq
  exact ⟨μ s',hlt,s',rfl,hp',ha',hs'⟩
 | exit id=>exact hq
 | goto l=>exact hq
 | ret=>exact hq
 | panic ch=>exact hq
 | outgrown=>exact hq
theorem WQ.backD {σ:Type} {k:Nat} {ds:σ->List Deferred} {E:σ->Env} {I:σ->List HP} {p:σ->Prop} {μ:σ->Nat} {s:σ} {d1:List Deferred} (s':σ) (hp:p s') (hlt:μ s' < μ s) (hds:d1=ds s') (he:Env.le (E s') e:=by repeat (first | exact Env.le_nil _ | refine Env.le_cons rfl ?_)) (hI:Am L (I s'):=by repeat (first | exact .refl | exact .nil | (apply Am.take;focus ((repeat (first | exact .here | apply Rem.there));done)) | refine .skip ?_)) :
  WQ B ⟨k,d1⟩ (Exit.then (S3 B k ds E I p μ s) Q) .normal e L:=fun a w ha hs=>⟨s',hp,hlt,by rw [<- hds];exact ha.weak he,hI.wk B w hs⟩
def marksH (Ds:List Nat):HP:=exH (fun _:Unit=>True) (fun _=>Ds.map fun D=>pt D (.deferred (some [])))
theorem marksH.nil :marksH [] (fun _=>none):=exH.opens.of () trivial _ (by unfold star;exact ⟨[],trivial⟩)
theorem marksH.cons {D:Nat} {Ds:List Nat} {w:World} {M:List HP} (h:Sat B w (pt D (.deferred (some [])) :: marksH Ds :: M)):Sat B w (marksH (D :: Ds) :: M):=by
 obtain ⟨_,_,h1⟩:=Sat.opens (Sat.front (.there .here) h) exH.opens
 have h2:=Sat.front (vi _ M) h1
 exact Sat.shuts (A:=marksH (D :: Ds)) (exH.opens (p:=fun _:Unit=>True) (Ls:=fun _=>(D :: Ds).map fun D=>pt D (.deferred (some [])))) (x:=()) trivial h2
theorem WQ.markIn {xt:Exit} {D:Nat} {Ds:List Nat} {M:List HP} (h:WQ B n Q xt e (marksH (D :: Ds) :: M)) (t:Tk L [pt D (.deferred (some [])),marksH Ds] M:=by repeat (first | exact .nil | (apply Tk.cons;focus ((repeat (first | exact .here | apply Rem.there));done)))):WQ B n Q xt e L :=
 fun a w ha hs=>h a w ha (marksH.cons (hs.take t))
theorem WC.markIn {c:Code} {D:Nat} {Ds:List Nat} {M:List HP} (h:WC P B n c Q e (marksH (D :: Ds) :: M)) (t:Tk L [pt D (.deferred (some [])),marksH Ds] M:=by repeat (first | exact .nil | (apply Tk.cons;focus ((repeat (first | exact .here | apply Rem.there));done)))):WC P B n c Q e L :=
 fun a w ha hs=>h a w ha (marksH.cons (hs.take t))
variable {fn:Func} {F:List HP} {R:List HP->Value->List HP->Prop}
theorem qe {tmps:Array Value} {S:Ending->World->Prop} {M:List HP}:∀ (Ds:List Nat) (w:World),Sat B w ((Ds.map fun D=>pt D (.deferred (some [])))++M)->(∀ w',Sat B w' M->LeavesInM Fence.wide 0 P fn tmps S [] .returning w')->LeavesInM Fence.wide 0 P fn tmps S (Ds.map r8) .returning w
 | [],w,hs,h=>h w hs
 | D :: Ds,w,hs,h=>⟨by simp,.inl ⟨D,_,rfl,run_takeDeferred (Sat.get hs Mem.here),qe Ds _ (Sat.set hs Repl.here).tail h⟩⟩
theorem WQ.retMs2 {xt:Exit} {Ds:List Nat} {r s:ResultVar} {v u:Value} {L':List HP} (h:∃ M,R F (.tuple #[v,u]) M/\Am L' M) (rm:Rem L (marksH Ds) L') (h1:RV P e L' r v) (h2:RV P e L' s u)
  (hres:fn.results=#[r,s]:=by rfl) (hD:n.ds=Ds.map r8:=by rfl) (hx:(xt=.ret ∨ xt=.normal):=by first | exact .inl rfl | exact .inr rfl) :
  WQ B n (bodyPostM Fence.wide 0 P fn (Post B F R)) xt e L:=by
 obtain ⟨M,hR,hAm⟩:=h
 intro a w ha hs
 obtain ⟨_,_,hs1⟩:=Sat.opens (Sat.front rm hs) exH.opens
 have key:LeavesInM Fence.wide 0 P fn a.tmps (Post B F R) a.defers .returning w:=by
  rw [ha.defers,hD]
  exact qe Ds w hs1 fun w' hs'=>⟨_,Bo hres ha hs' h1 h2,_,M,rfl,hR,hAm.wk B _ hs'⟩
 rcases hx with rfl | rfl<;>exact key
variable {ll D:Nat} {mk:LoopState->Option Code->Loop} {fnn:Nat} {tmps:Array Value}
theorem WQ.rndRetK {F:List HP} {R:List HP->Bool->List HP->Prop} {ps:Array Nat} {asg body:Code} {L':List HP} (hmk:LRec mk fnn tmps ps asg body D)
  (h:∃ M,R F false M/\Am L' M) (r:Repl L (pt ll (.loop (mk .busy none))) (pt ll (.loop (mk .done (some .ret)))) L'):WQ B n (roundPost P ll (Dl B F R)) .ret e L:=by
 rw [hmk,hmk] at r
 exact WQ.rndRet h r
end
def l4 (off:Int) (bs:List Bt):List Bt:=bs.filter fun b=>decide (off < b.base+b.span)
def p2 (off:Int) (ss:List SegA):List Bt:=ss.flatMap fun y=>l4 off y.2
theorem SegOrd.tail {x:SRow} {l:List SRow} (h:SegOrd (x :: l)):SegOrd l:=fun i j y z hij hi hj=>h (i+1) (j+1) y z (by omega) (by simpa using hi) (by simpa using hj)
theorem Mi {off:Int}:∀ l:List Bt,(∀ b∈l,off < b.base+b.span)->l4 off l=l:=fun l h=>by
 unfold l4
 exact List.filter_eq_self.2 fun b hb=>decide_eq_true (h b hb)
theorem hitK {off:Int}:∀ {rows:List SRow},SegOrd rows->∃ k,k<=rows.length/\(∀ i,i < k->hitR off rows i=false)/\(∀ i,k<=i->i < rows.length->hitR off rows i=true)/\(rows.drop k).map SRow.b=l4 off (rows.map SRow.b)
 | [],_=>⟨0,Nat.le_refl _,fun i h=>absurd h (Nat.not_lt_zero i),fun i _ h=>absurd h (Nat.not_lt_zero i),rfl⟩
 | x :: l,h=>by
  by_cases hx:off < x.b.base+x.b.span
  ·refine ⟨0,Nat.zero_le _,fun i h=>absurd h (Nat.not_lt_zero i),fun i _ hi=>zh h 0 i (Nat.zero_le _) (by rw [xw (x:=x) rfl];exact decide_eq_true hx),?_⟩
   rw [List.drop_zero,Mi]
   intro b hb
   obtain ⟨y,hy,rfl⟩:=List.mem_map.1 hb
   obtain ⟨j,hj⟩:=List.getElem?_of_mem hy
   have:=h 0 j x y (Nat.zero_le _) rfl hj
   omega
  ·obtain ⟨k,h1,h2,h3,h4⟩:=hitK (off:=off) h.tail
   refine ⟨k+1,by simpa using h1,fun i hi=>?_,fun i hi hl=>?_,?_⟩
   ·cases i with
    | zero=>rw [xw (x:=x) rfl];exact decide_eq_false hx
    | succ i=>exact h2 i (by omega)
   ·cases i with
    | zero=>omega
    | succ i=>exact h3 i (by omega) (by simpa using hl)
   ·rw [List.drop_succ_cons,h4,List.map_cons]
    unfold l4
    rw [List.filter_cons_of_neg (by simpa using hx)]
structure PS where
 pre:List SegA
 base:Nat
 bs:List Bt
def PS.ss (x:PS):List SegA:=x.pre++[(x.base,x.bs)]
def PS.add (seg:Int) (x:PS) (b:Bt):PS:=if (x.bs.flatMap batB).length=0 ∨ (((x.bs.flatMap batB).length:Nat):Int)+(((batB b).length:Nat):Int)<=seg then ⟨x.pre,x.base,x.bs++[b]⟩ else ⟨x.ss,b.base.toNat,[b]⟩
theorem PS.add_ss {seg:Int} {x:PS} {b:Bt}:addP seg x.pre x.base x.bs b=(x.add seg b).ss:=by
 unfold addP PS.add PS.ss
 split<;>rfl
theorem PS.add_n {seg:Int} {x:PS} {b:Bt}:addN seg x.bs b x.ss.length=(x.add seg b).ss.length:=by
 unfold addN PS.add PS.ss
 split
 ·simp
 ·simp
theorem PS.len (x:PS):x.ss.length=x.pre.length+1:=by unfold PS.ss;rw [List.length_append,List.length_singleton]
structure PSI (x:PS) (next:Nat) (l:List Bt) (m:Nat):Prop where
 all:x.ss.flatMap (fun y=>y.2)=l
 nx:i3 ((x.base:Nat):Int) x.bs=((next:Nat):Int)
 le:∀ y∈x.ss,y.1<=x.base
 lt:x.base<=next/\(x.bs≠[]->x.base < next)
 cnt:x.pre.length+x.bs.length<=l.length
 size:∀ b∈l,(batB b).length<=m
 fst:∃ bs0 post,x.ss=(0,bs0) :: post
theorem Mj (b:Bt):48<=(batB b).length:=by rw [C5];omega
theorem P1 {l:List Bt} {m:Nat} (h:∀ b∈l,(batB b).length<=m):(l.flatMap batB).length<=l.length * m:=by
 induction l with
 | nil=>simp
 | cons x l ih =>
  have h1:=h x (List.mem_cons_self ..)
  have h2:=ih fun b hb=>h b (List.mem_cons_of_mem _ hb)
  rw [List.flatMap_cons,List.length_append,List.length_cons,Nat.succ_mul]
  omega
theorem zq :∀ ss:List SegA,bytT ss=((ss.flatMap fun y=>y.2).flatMap batB).length
 | []=>rfl
 | y :: ss=>by
  have h:=zq ss
  unfold bytT at h ⊢
  rw [List.map_cons,List.sum_cons,h,List.flatMap_cons,List.flatMap_append,List.length_append]
  rfl
theorem PSI.byt {x:PS} {next m:Nat} {l:List Bt} (h:PSI x next l m):bytT x.ss<=l.length * m:=by
 rw [zq,h.all]
 exact P1 h.size
theorem Ex {base:Int} {bs:List Bt} {b:Bt}:i3 base (bs++[b])=b.base+b.span:=by
 unfold i3
 rw [List.getLast?_concat]
theorem PSI.zero (m:Nat):PSI ⟨[],0,[]⟩ 0 [] m:=⟨rfl,rfl,fun y hy=>by rw [List.mem_singleton.1 hy];exact Nat.le_refl _,⟨Nat.le_refl _,fun h=>absurd rfl h⟩,Nat.le_refl _,fun b hb=>absurd hb List.not_mem_nil,⟨[],[],rfl⟩⟩
theorem PSI.add {x:PS} {next m k:Nat} {l:List Bt} {seg:Int} {b:Bt} (h:PSI x next l m) (hb:b.base=((next:Nat):Int)) (hs:b.span=((k:Nat):Int)) (hk:1<=k) (hm:(batB b).length<=m):PSI (x.add seg b) (next+k) (l++[b]) m:=by
 have hlt:=h.lt
 have hcnt:=h.cnt
 have hsz:∀ c∈l++[b],(batB c).length<=m:=fun c hc=>(List.mem_append.1 hc).elim (h.size c) (fun hc=>by rw [List.mem_singleton.1 hc];exact hm)
 obtain ⟨bs0,post,hfst⟩:=h.fst
 unfold PS.add
 split
 ·refine ⟨?_,?_,fun y hy=>?_,⟨?_,fun _=>?_⟩,?_,hsz,?_⟩
  ·show (x.pre++[(x.base,x.bs++[b])]).flatMap (fun y=>y.2)=_
   rw [<- h.all]
   unfold PS.ss
   rw [List.flatMap_append,List.flatMap_append,List.flatMap_singleton,List.flatMap_singleton,List.append_assoc]
  ·show i3 _ (x.bs++[b])=_
   rw [Ex,hb,hs]
   omega
  ·rcases List.mem_append.1 hy with hy | hy
   ·exact h.le y (List.mem_append_left _ hy)
   ·rw [List.mem_singleton.1 hy];exact Nat.le_refl _
  ·show x.base<=next+k
   omega
  ·show x.base < next+k
   omega
  ·show x.pre.length+(x.bs++[b]).length<=(l++[b]).length
   rw [List.length_append,List.length_append,List.length_singleton]
   omega
  ·show ∃ bs0 post,x.pre++[(x.base,x.bs++[b])]=(0,bs0) :: post
   have hfst:x.pre++[(x.base,x.bs)]=(0,bs0) :: post:=hfst
   cases hp:x.pre with
   | nil =>
    rw [hp] at hfst
    injection hfst with h1 _
    injection h1 with h1 _
    rw [h1]
    exact ⟨_,[],rfl⟩
   | cons y l =>
    rw [hp] at hfst
    injection hfst with h1 _
    rw [h1]
    exact ⟨_,_,rfl⟩
 ·rename_i hc
  have hne:x.bs≠[]:=fun h0=>hc (.inl (by rw [h0];rfl))
  have hbl:0 < x.bs.length:=List.length_pos_iff.2 hne
  have hn:b.base.toNat=next:=by rw [hb,Int.toNat_natCast]
  rw [hn]
  refine ⟨?_,?_,fun y hy=>?_,⟨?_,fun _=>?_⟩,?_,hsz,⟨bs0,post++[(next,[b])],by show x.ss++[(next,[b])]=_;rw [hfst];rfl⟩⟩
  ·show (x.ss++[(next,[b])]).flatMap (fun y=>y.2)=_
   rw [List.flatMap_append,List.flatMap_singleton,h.all]
  ·show b.base+b.span=_
   rw [hb,hs]
   omega
  ·show y.1<=next
   rcases List.mem_append.1 hy with hy | hy
   ·have:=h.le y hy
    omega
   ·rw [List.mem_singleton.1 hy];exact Nat.le_refl _
  ·show next<=next+k
   omega
  ·show next < next+k
   omega
  ·show x.ss.length+1<=(l++[b]).length
   rw [PS.len,List.length_append,List.length_singleton]
   omega
theorem Mk {pp f next c m:Nat} {dn:aa} {st:Sts} {p:Pl} {x:PS} {all:List Bt} {A:Addr} {R:HP} {prod seq:Int} {l:List Rc} (hp:PlP p) (h:PSI x next all m) (hpre:x.pre.length<=55) (hino:x.pre.length+5<=p.ino) (hbyt:bytT x.ss<=60000) (hcnt:all.length<=9999) (hnext:next<=1125899906842624) (hdn:dn.length<=900) (hR:Reads R (some A) (l.flatMap Rc.v)) (hpos:0 < l.length) (hll:l.length<=10000) (hE:batE (aq ((next:Nat):Int) prod seq l)=0) :
  Spec Tryz.prog 16 #[.pointer (some ⟨pp,0,none⟩),.int .i64 prod,.int .i64 seq,.slice (some A) l.length c] [PT pp f dn st [] x.ss,DRF f p dn x.ss.length x.ss,R] fun F v M=>v=.tuple #[.int .i64 ((next:Nat):Int),.int .i64 0]/\M=PT pp f dn st [] (x.add st.seg (aq ((next:Nat):Int) prod seq l)).ss :: DRF f p dn (x.add st.seg (aq ((next:Nat):Int) prod seq l)).ss.length (x.add st.seg (aq ((next:Nat):Int) prod seq l)).ss :: R :: F:=by
 have hl:=x.len
 have hlt:=h.lt
 have hcn:=h.cnt
 have hb1:(x.bs.flatMap batB).length<=bytT x.ss:=by
  unfold PS.ss
  rw [qv]
  have h2:bytT [(x.base,x.bs)]=(x.bs.flatMap batB).length:=rfl
  omega
 have h1:=t6 (pp:=pp) (f:=f) (N:=x.ss.length) (base:=x.base) (nb:=next) (c:=c) (dn:=dn) (st:=st) (p:=p) (pre:=x.pre) (bs:=x.bs) (A:=A) (R:=R) (prod:=prod) (seq:=seq) (l:=l) hp ⟨by omega,by omega,by show x.ss.length<=60;omega,by show bytT x.ss<=90000;omega⟩ (by omega) (by omega) hpre hdn hR hpos hll hE h.nx.symm (fun y hy=>⟨by have:=h.le y hy;omega,fun hne=>by have:=h.le y hy;have:=hlt.2 hne;omega⟩) (by omega) (by omega)
 rw [PS.add_ss,PS.add_n] at h1
 exact h1
theorem WQ.markF {B:Base} {n:Fr} {Q:Exit->Act->World->Prop} {e:Env} {L M:List HP} {xt:Exit} (Ds:List Nat) (h:WQ B n Q xt e (marksH Ds :: M)) (r:Rem L (marksH Ds) M:=by repeat (first | exact .here | apply Rem.there)):WQ B n Q xt e L :=
 fun a w ha hs=>h a w ha (Sat.front r hs)
theorem o5 {off:Int}:∀ ss:List SegA,p2 off ss=l4 off (ss.flatMap fun y=>y.2)
 | []=>rfl
 | y :: ss=>by
  have h:=o5 (off:=off) ss
  unfold p2 l4 at h ⊢
  rw [List.flatMap_cons,List.flatMap_cons,List.filter_append,h]
theorem nl {y:SegA}:∀ {ss:List SegA},y∈ss->y.2.length<=(ss.flatMap fun y=>y.2).length
 | [],h=>absurd h List.not_mem_nil
 | z :: ss,h=>by
  rw [List.flatMap_cons,List.length_append]
  rcases List.mem_cons.1 h with h | h
  ·rw [h];omega
  ·have:=nl h;omega
theorem Ey {off:Int} {y:SegA} {ss:List SegA}:p2 off (y :: ss)=l4 off y.2++p2 off ss:=rfl
theorem I9 {mx:Int}:∀ (l:List Bt) (n:Int) (h:Bool),(gotB mx n h l).length<=l.length
 | [],_,_=>Nat.le_refl _
 | x :: l,n,h=>by
  unfold gotB
  split
  ·exact Nat.zero_le _
  ·have:=I9 (mx:=mx) l (n+(((batB x).length:Nat):Int)) true
   simp only [List.length_cons]
   omega
theorem C9 {pp f:Nat} {dn:aa} {st:Sts} {dp:List Value} {ss:List SegA} {off mx:Int} {y z:SegA} {pre post:List SegA} (hs1:ss=y :: post) (hs2:ss=pre++[z]) (htot:(ss.flatMap fun y=>y.2).length<=90000) (hmx:1<=mx) (ho:((y.1:Nat):Int)<=off/\off<=i3 ((z.1:Nat):Int) z.2) :
  Spec Tryz.prog 20 #[.pointer (some ⟨pp,0,none⟩),.int .i64 off,.int .i64 mx] [PT pp f dn st dp ss] fun F v M=>∃ u,v=.tuple #[u,.int .i64 0]/\M=BL u (gotB mx 0 false (p2 off ss)) :: PT pp f dn st dp ss :: F:=by
 refine Spec.introM Tryz.func20 rfl rfl fun B F=>?_
 simp only [Tryz.ntmps20,List.cons_append,List.nil_append,env0,Nat.reduceAdd]
 have hlen:∀ y∈ss,y.2.length<=100000:=fun y hy=>by have:=nl hy;omega
 refine .openR (PT.opens pp f dn st dp ss) fun x hx=>?_
 obtain ⟨g0,c0,sg⟩:=x
 obtain ⟨hls,hc1,hc2,hn2⟩:=hx
 simp only [ptLs,List.cons_append,List.nil_append] at hls hc1 hc2 hn2 ⊢
 have hn:0 < sg.length:=by have:=congrArg List.length hls;rw [List.length_map,hs1,List.length_cons] at this;omega
 refine .sr ?_
 refine .box fun b5=>?_
 refine .alloc z40 fun b6=>?_
 refine .alloc z34 fun b7=>?_
 refine .z (.seq (.block (.sr (.move ?_))))
 refine .call (hc:=Tryz.call38) (sp:=ie hn hn2) (h:=?_)
 rintro _ _ ⟨rfl,rfl⟩
 refine .not ?_
 refine .assign (.z ?_)
 refine .condF rfl rfl ?_
 refine .sr ?_
 refine .ld ?_ sc3
 refine .lss ?_
 refine .assign (.z ?_)
 refine .condF rfl (cB9 (by first | (exact decide_eq_true (by omega)) | (exact decide_eq_false (by omega)) | (simp;done) | (simp;omega) | omega)) ?_
 refine .sr (.move (.move ?_))
 refine .shutR (PT.opens pp f dn st dp ss) (g0,c0,sg) ⟨hls,hc1,hc2,hn2⟩ ?_
 refine .call (hc:=Tryz.call19) (sp:=oz (dp:=dp) (ss:=ss) (y:=y) (post:=post) hs1) (h:=?_)
 rintro _ _ ⟨rfl,rfl⟩
 refine .lss ?_
 refine .move ?_
 refine .cast (d:=26) (u:=.bool false) rfl (cB9 (by first | (exact decide_eq_true (by omega)) | (exact decide_eq_false (by omega)) | (simp;done) | (simp;omega) | omega)) ?_
 refine .gT (.move (.gT (.move (.gT ?_))))
 refine .call (hc:=Tryz.call18) (sp:=oy (dp:=dp) (ss:=ss) (pre:=pre) (y:=z) hs2 (hlen z (by rw [hs2];simp))) (h:=?_)
 rintro _ _ ⟨rfl,rfl⟩
 refine .gT ?_
 refine .gtr ?_
 refine .pickF (.assign (.z ?_))
 refine .condF rfl (cB9 (by first | (exact decide_eq_true (by omega)) | (exact decide_eq_false (by omega)) | (simp;done) | (simp;omega) | omega)) ?_
 refine .skip (.blockNormal (.next (.sr ?_)))
 refine .alloc z40 fun b8=>?_
 refine .x ?_
 refine .alloc z3 fun b9=>?_
 refine .st ?_ sc3
 refine .z (.seq (.sr (.move ?_)))
 clear hls hc1 hc2 hn hn2
 refine .openR (PT.opens pp f dn st dp ss) fun x hx=>?_
 obtain ⟨g0,c0,sg⟩:=x
 obtain ⟨hls,hc1,hc2,hn2⟩:=hx
 simp only [ptLs,List.cons_append,List.nil_append] at hls hc1 hc2 hn2 ⊢
 have hn:0 < sg.length:=by have:=congrArg List.length hls;rw [List.length_map,hs1,List.length_cons] at this;omega
 refine .nilCheck ?_
 refine .fa ?_ eu
 refine .ld ?_ sc82
 refine .lenS ?_ sl82
 refine .move (.z (.block ?_))
 obtain ⟨res,hres⟩:∃ res,res=gotB mx 0 false (p2 off ss):=⟨_,rfl⟩
 rw [<- hres]
 have hrl:res.length<=90000:=by
  have h1:=I9 (mx:=mx) (p2 off ss) 0 false
  rw [<- hres] at h1
  rw [o5] at h1
  have h2:(l4 off (ss.flatMap fun y=>y.2)).length<=(ss.flatMap fun y=>y.2).length:=List.length_filter_le _ _
  omega
 refine .emp (A:=rowR 44 5 (.slice none 0 0) ([]:List BRow).length (([]:List BRow).flatMap BRow.v)) (rowR.nil _) ?_
 refine .emp (A:=frz []) rq ?_
 refine .emp (A:=marksH []) marksH.nil ?_
 refine .loopD (σ:=Nat×(Value×List BRow×List (Nat×Obj)×Int)×List Nat) (fun s=>s.2.2.map r8) (fun s=>[(0,.pointer (some ⟨pp,0,none⟩)),(1,.int .i64 off),(5,.pointer (some ⟨b5,0,none⟩)),(6,.pointer (some ⟨b6,0,none⟩)),(7,.pointer (some ⟨b7,0,none⟩)),(8,.pointer (some ⟨b8,0,none⟩)),(9,.pointer (some ⟨b9,0,none⟩)),(35,.slice (some ⟨g0,dp.length,none⟩) sg.length (c0 - dp.length)),(36,.int .i64 ((sg.length:Nat):Int)),(37,.int .i64 ((s.1:Nat):Int))]) (fun s=>[pt b5 (.cells #[.int .i64 mx] 3 (0,0)),pt b6 (.cells #[.slice none 0 0] 40 (0,0)),pt b7 (.cells #[.int .i64 0] 34 (0,0)),pt b8 (.cells #[s.2.1.1] 40 (0,0)),pt b9 (.cells #[.int .i64 s.2.1.2.2.2] 3 (0,0)),rowR 44 5 s.2.1.1 s.2.1.2.1.length (s.2.1.2.1.flatMap BRow.v),frz s.2.1.2.2.1,marksH s.2.2,pt pp (jy f dn st (.slice (some ⟨g0,dp.length,none⟩) sg.length (c0 - dp.length))),buf g0 86 c0 (dp++sg.map Seg.ptr),segsH f dn sg]++F) (fun s=>s.1<=sg.length/\s.2.1.2.1.map BRow.b++gotB mx s.2.1.2.2.2 (decide (0 < s.2.1.2.1.length)) (p2 off ((sg.drop s.1).map Seg.a))=res/\(0<=s.2.1.2.2.2/\s.2.1.2.2.2<=6000 * ((s.2.1.2.1.length:Nat):Int))/\∀ y∈s.2.1.2.1,BRowOk s.2.1.2.2.1 y) (fun s=>sg.length - s.1) (0,(.slice none 0 0,[],[],0),[]) ⟨Nat.zero_le _,by rw [hres,<-hls];rfl,⟨Int.le_refl _,Int.le_refl _⟩,fun y hy=>absurd hy List.not_mem_nil⟩ rfl ?_
 rintro ⟨k,⟨v,l,os,n⟩,Ds⟩ ⟨hk,hy1,hy2,hy3⟩
 simp only at hk hy1 hy2 hy3 ⊢
 have hll:l.length<=90000:=by
  have h1:=congrArg List.length hy1
  rw [List.length_append,List.length_map] at h1
  omega
 refine .sr ?_
 refine .lss ?_
 refine .z (.seq ?_)
 refine .cond rfl (fun hd=>?_) (fun hd=>?_)
 ·have hkl:k < sg.length:=by have h:((k:Nat):Int) < ((sg.length:Nat):Int):=of_decide_eq_true hd;omega
  obtain ⟨x,hx⟩:∃ x,sg[k]?=some x:=⟨_,List.getElem?_eq_getElem hkl⟩
  have hsp:sg=sg.take k++x :: sg.drop (k+1):=by
   conv=>lhs;rw [<- List.take_append_drop k sg]
   rw [List.drop_eq_getElem_cons hkl,(List.getElem?_eq_some_iff.1 hx).2]
  have hdr:sg.drop k=x :: sg.drop (k+1):=by rw [List.drop_eq_getElem_cons hkl,(List.getElem?_eq_some_iff.1 hx).2]
  have hxm:x.a∈ss:=by rw [<- hls];exact List.mem_map.2 ⟨x,List.mem_of_getElem? hx,rfl⟩
  have hxl:x.bs.length<=100000:=hlen _ hxm
  rw [hdr,List.map_cons,Ey,show x.a.2=x.bs from rfl] at hy1
  obtain ⟨rest,hrest⟩:∃ rest,rest=p2 off ((sg.drop (k+1)).map Seg.a):=⟨_,rfl⟩
  rw [<- hrest] at hy1
  refine .to (A:=segsH f dn sg) (A':=segsH f dn (sg.take k++x :: sg.drop (k+1))) (fun h hh=>by rw [<- hsp];exact hh) ?_
  refine .segOut (sg.take k) (sg.drop (k+1)) ?_
  refine .openR (SGP.opens x.s f (d3 dn (aw x.base)) ((x.base:Nat):Int) x.bs) fun y hi=>?_
  obtain ⟨rows,u,ros⟩:=y
  simp only [Il,List.cons_append,List.nil_append] at hi ⊢
  obtain ⟨k0,hk0,hk1,hk2,hk3⟩:=hitK (off:=off) hi.ord
  rw [hi.b] at hk3
  rw [<- hk3] at hy1
  have hrl2:=hi.len
  refine .skip (.next (.seq (.block (.sr ?_))))
  refine .idx1 ?_ so82
  refine .ldR (i:=((k:Nat):Int).toNat) (v:=x.ptr) ?_ sc86 (gp (l:=sg)) (by rw [Int.toNat_natCast,List.getElem?_map,hx];rfl)
  refine .assign (.x (.move (.move ?_)))
  refine .call (hc:=Tryz.call51) (sp:=tx) (h:=?_)
  rintro _ _ ⟨cs,co,rfl,rfl⟩
  refine .z (.block ?_)
  refine .rangeK rfl Tryz.call101 fun fn D ll tmps mk hmk hts hget=>?_
  obtain ⟨C,hC⟩:∃ C:Nat->HP,C=fun i=>exH (fun x:Value×List BRow×List (Nat×Obj)×Int=>x.2.1.map BRow.b++gotB mx x.2.2.2 (decide (0 < x.2.1.length)) ((rows.drop i).map SRow.b++rest)=res/\(0<=x.2.2.2/\x.2.2.2<=6000 * ((x.2.1.length:Nat):Int))/\∀ y∈x.2.1,BRowOk x.2.2.1 y) (fun x=>[pt ll (.loop (mk .ready none)),pt b5 (.cells #[.int .i64 mx] 3 (0,0)),pt b6 (.cells #[.slice none 0 0] 40 (0,0)),pt b7 (.cells #[.int .i64 0] 34 (0,0)),pt b8 (.cells #[x.1] 40 (0,0)),pt b9 (.cells #[.int .i64 x.2.2.2] 3 (0,0)),rowR 44 5 x.1 x.2.1.length (x.2.1.flatMap BRow.v),frz x.2.2.1]):=⟨_,rfl⟩
  have hopen:∀ i,Opens (C i) (fun x:Value×List BRow×List (Nat×Obj)×Int=>x.2.1.map BRow.b++gotB mx x.2.2.2 (decide (0 < x.2.1.length)) ((rows.drop i).map SRow.b++rest)=res/\(0<=x.2.2.2/\x.2.2.2<=6000 * ((x.2.1.length:Nat):Int))/\∀ y∈x.2.1,BRowOk x.2.2.1 y) (fun x=>[pt ll (.loop (mk .ready none)),pt b5 (.cells #[.int .i64 mx] 3 (0,0)),pt b6 (.cells #[.slice none 0 0] 40 (0,0)),pt b7 (.cells #[.int .i64 0] 34 (0,0)),pt b8 (.cells #[x.1] 40 (0,0)),pt b9 (.cells #[.int .i64 x.2.2.2] 3 (0,0)),rowR 44 5 x.1 x.2.1.length (x.2.1.flatMap BRow.v),frz x.2.2.1]):=fun i=>by rw [hC];exact exH.opens
  obtain ⟨Cx,hCx⟩:∃ Cx:HP,Cx=exH (fun x:Value×List BRow×List (Nat×Obj)×Int=>x.2.1.map BRow.b=res/\∀ y∈x.2.1,BRowOk x.2.2.1 y) (fun x=>[pt ll (.loop (mk .done (some .ret))),pt b5 (.cells #[.int .i64 mx] 3 (0,0)),pt b6 (.cells #[x.1] 40 (0,0)),pt b7 (.cells #[.int .i64 0] 34 (0,0)),pt b8 (.cells #[x.1] 40 (0,0)),pt b9 (.cells #[.int .i64 x.2.2.2] 3 (0,0)),rowR 44 5 x.1 x.2.1.length (x.2.1.flatMap BRow.v),frz x.2.2.1]):=⟨_,rfl⟩
  have hopenx:Opens Cx (fun x:Value×List BRow×List (Nat×Obj)×Int=>x.2.1.map BRow.b=res/\∀ y∈x.2.1,BRowOk x.2.2.1 y) (fun x=>[pt ll (.loop (mk .done (some .ret))),pt b5 (.cells #[.int .i64 mx] 3 (0,0)),pt b6 (.cells #[x.1] 40 (0,0)),pt b7 (.cells #[.int .i64 0] 34 (0,0)),pt b8 (.cells #[x.1] 40 (0,0)),pt b9 (.cells #[.int .i64 x.2.2.2] 3 (0,0)),rowR 44 5 x.1 x.2.1.length (x.2.1.flatMap BRow.v),frz x.2.2.1]):=by rw [hCx];exact exH.opens
  clear hC hCx
  have hY:∀ (i:Nat) (x:SRow) (A2:Addr) (c2:Nat),rows[i]?=some x->k0<=i->RSpec Tryz.prog ll [.agg (x.b.v (.slice (some A2) x.b.recs.length c2)).toArray,.int .i64 ((x.k:Nat):Int)] [rowR 95 6 (.slice (some A2) x.b.recs.length c2) x.b.recs.length x.b.rv,C i] fun F b M=>(b=true/\M=C (i+1) :: F) ∨ (b=false/\M=Cx :: F):=by
   intro i x A2 c2 hx _
   have hxok:=hi.ok x (List.mem_of_getElem? hx)
   obtain ⟨hxk1,hxk⟩:=hi.k x (List.mem_of_getElem? hx)
   have hil:i < rows.length:=(List.getElem?_eq_some_iff.1 hx).1
   have hdr:rows.drop i=x :: rows.drop (i+1):=by
    rw [List.drop_eq_getElem_cons hil,(List.getElem?_eq_some_iff.1 hx).2]
   refine RSpec.pre' (pre:=C i :: [rowR 95 6 (.slice (some A2) x.b.recs.length c2) x.b.recs.length x.b.rv]) (RSpec.opens (hopen i) fun y hy=>?_) (fun B w F hs=>hs.take (.cons (.there .here) (.cons .here .nil)))
   obtain ⟨v,l,os2,n⟩:=y
   obtain ⟨hy1,hy2,hy4⟩:=hy
   simp only at hy1 hy2 hy4
   rw [hdr,List.map_cons,List.cons_append] at hy1
   have hy3:l.length<=90000:=by
    have h1:=congrArg List.length hy1
    rw [List.length_append,List.length_map] at h1
    omega
   simp only [List.cons_append,List.nil_append]
   refine RSpec.post' (R:=fun F b M=>(b=true/\∃ (v:Value) (l:List BRow) (os2:List (Nat×Obj)) (n:Int),(l.map BRow.b++gotB mx n (decide (0 < l.length)) ((rows.drop (i+1)).map SRow.b++rest)=res/\(0<=n/\n<=6000 * ((l.length:Nat):Int))/\∀ y∈l,BRowOk os2 y)/\M=pt ll (.loop (mk .ready none)) :: pt b5 (.cells #[.int .i64 mx] 3 (0,0)) :: pt b6 (.cells #[.slice none 0 0] 40 (0,0)) :: pt b7 (.cells #[.int .i64 0] 34 (0,0)) :: pt b8 (.cells #[v] 40 (0,0)) :: pt b9 (.cells #[.int .i64 n] 3 (0,0)) :: rowR 44 5 v l.length (l.flatMap BRow.v) :: frz os2 :: F) ∨ (b=false/\∃ (v:Value) (l:List BRow) (os2:List (Nat×Obj)) (n:Int),(l.map BRow.b=res/\∀ y∈l,BRowOk os2 y)/\M=pt ll (.loop (mk .done (some .ret))) :: pt b5 (.cells #[.int .i64 mx] 3 (0,0)) :: pt b6 (.cells #[v] 40 (0,0)) :: pt b7 (.cells #[.int .i64 0] 34 (0,0)) :: pt b8 (.cells #[v] 40 (0,0)) :: pt b9 (.cells #[.int .i64 n] 3 (0,0)) :: rowR 44 5 v l.length (l.flatMap BRow.v) :: frz os2 :: F)) (RSpec.introK (ps:=[44,45]) (k:=64) hmk hts hget rfl rfl fun B F=>?_) ?_
   ·simp only [envs,List.cons_append,List.nil_append]
    refine WJ.seq ?_
    refine WJ.region .auto ?_
    refine .alloc z44 fun b12=>?_
    refine .stV ?_ ex
    refine .nil ?_
    refine .nextI ?_
    refine WJ.region .auto ?_
    refine .assign (.nil ?_)
    refine .beginK hmk ?_ (by repeat (first | exact .here | apply Rem.there | apply Repl.there | apply Mem.there))
    by_cases h1:mx < n+((x.k:Nat):Int)
    ·by_cases h2:0 < l.length
     ·have hst:l.map BRow.b=res:=by
       have h:=hy1
       unfold gotB at h
       rw [<- hxk1] at h
       rwa [if_pos ⟨decide_eq_true h2,h1⟩,List.append_nil] at h
      refine WJ.block ?_
      refine WJ.seq ?_
      refine WJ.seq ?_
      refine WJ.region .auto ?_
      refine .ld ?_ sc3
      refine .fact (ag (el:=44) (size:=5) (k:=l.length) (v:=v) (xs:=l.flatMap BRow.v)) fun ⟨A8,c8,hv8,_⟩=>?_
      subst hv8
      refine .move ?_
      refine .add ?_
      refine .st ?_ sc3
      refine .nil ?_
      refine .nextI ?_
      refine WJ.seq ?_
      refine WJ.region .auto ?_
      refine .ld ?_ sc3
      refine .ld ?_ sc3
      refine .gtr ?_
      refine .move ?_
      refine .cast (d:=52) (u:=.bool true) rfl (cB9 (by first | (simp;done) | (exact decide_eq_true (by omega)) | (exact decide_eq_false (by omega)) | (simp;omega) | omega)) ?_
      refine .gT ?_
      refine .ld ?_ sc40
      refine .gT ?_
      refine .lenS ?_ sl40
      refine .gT ?_
      refine .gtr ?_
      refine .pickT (.nil ?_)
      refine .nextI ?_
      refine WJ.condT rfl (cB9 (by first | (simp;done) | (exact decide_eq_true (by omega)) | (exact decide_eq_false (by omega)) | (simp;omega) | omega)) ?_
      refine WJ.seq ?_
      refine WJ.region .auto ?_
      refine .ld ?_ sc40
      refine .st ?_ sc40
      refine .st ?_ sc34
      refine .nil ?_
      refine .nextI ?_
      refine WJ.ret (.thenRet (.blockRet (?_)))
      refine .rndRetK hmk ?_ (by repeat (first | exact .here | apply Rem.there | apply Repl.there | apply Mem.there))
      exact ⟨_,.inr ⟨rfl,_,l,os2,_,⟨hst,hy4⟩,rfl⟩,Am.auto⟩
     ·have hgo:l.map BRow.b++(x.b :: gotB mx (n+((x.k:Nat):Int)) true ((rows.drop (i+1)).map SRow.b++rest))=res:=by
       have h:=hy1
       unfold gotB at h
       rw [<- hxk1] at h
       rwa [if_neg (fun h=>h2 (of_decide_eq_true h.1))] at h
      refine WJ.block ?_
      refine WJ.seq ?_
      refine WJ.seq ?_
      refine WJ.region .auto ?_
      refine .ld ?_ sc3
      refine .fact (ag (el:=44) (size:=5) (k:=l.length) (v:=v) (xs:=l.flatMap BRow.v)) fun ⟨A8,c8,hv8,_⟩=>?_
      subst hv8
      refine .move ?_
      refine .add ?_
      refine .st ?_ sc3
      refine .nil ?_
      refine .nextI ?_
      refine WJ.seq ?_
      refine WJ.region .auto ?_
      refine .ld ?_ sc3
      refine .ld ?_ sc3
      refine .gtr ?_
      refine .move ?_
      refine .cast (d:=52) (u:=.bool true) rfl (cB9 (by first | (simp;done) | (exact decide_eq_true (by omega)) | (exact decide_eq_false (by omega)) | (simp;omega) | omega)) ?_
      refine .gT ?_
      refine .ld ?_ sc40
      refine .gT ?_
      refine .lenS ?_ sl40
      refine .gT ?_
      refine .gtr ?_
      refine .pickT (.nil ?_)
      refine .nextI ?_
      refine WJ.condF rfl (cB9 (by first | (simp;done) | (exact decide_eq_true (by omega)) | (exact decide_eq_false (by omega)) | (simp;omega) | omega)) ?_
      refine WJ.skip ?_
      refine .nextI ?_
      refine WJ.region .auto ?_
      refine .ld ?_ sc40
      refine .ldA ?_ ex
      refine .buildS (fun b60=>?_) (Ij _ _ _ _ _ _ _)
      refine .toE (A:=rowR 95 6 (.slice (some A2) x.b.recs.length c2) x.b.recs.length x.b.rv) (jl hxok.pos) ?_
      rintro ⟨g2,q2,cur⟩ ⟨hv2,htk⟩
      injection hv2 with hA2 _ hc2
      injection hA2 with hA2
      simp only at hA2 hc2 htk
      subst hA2
      subst hc2
      refine .frzAdd ?_
      have hnew:BRowOk ((g2,.cells cur 95 (0,0)) :: os2) (⟨x.b,.slice (some ⟨g2,0,none⟩) x.b.recs.length c2⟩:BRow):=⟨hxok.pos,hxok.len,_,c2,rfl,by
       have:=(Reads.frz (os:=(g2,.cells cur 95 (0,0)) :: os2) (b:=g2) (cs:=cur) (List.mem_cons_self ..)).take x.b.rv.length
       rwa [htk] at this⟩
      refine .append (v:=.slice A8 l.length c8) (m:=1) (k:=l.length) (xs:=l.flatMap BRow.v) (news:=BRow.v (⟨x.b,.slice (some ⟨g2,0,none⟩) x.b.recs.length c2⟩:BRow)) so40 (by decide) (by repeat (first | exact .here | apply Rem.there | apply Repl.there | apply Mem.there)) (Reads.pt (cs:=(BRow.v (⟨x.b,.slice (some ⟨g2,0,none⟩) x.b.recs.length c2⟩:BRow)).toArray)) (by repeat (first | exact .here | apply Rem.there | apply Repl.there | apply Mem.there)) rfl nj (by unfold maxLen;omega) (by omega) ⟨_,z44,rfl⟩ (fun v2 hv2=>?_)
      rw [show l.flatMap BRow.v++BRow.v (⟨x.b,.slice (some ⟨g2,0,none⟩) x.b.recs.length c2⟩:BRow)=(l++[(⟨x.b,.slice (some ⟨g2,0,none⟩) x.b.recs.length c2⟩:BRow)]).flatMap BRow.v by rw [List.flatMap_append,List.flatMap_singleton],show l.length+1=(l++[(⟨x.b,.slice (some ⟨g2,0,none⟩) x.b.recs.length c2⟩:BRow)]).length by simp]
      refine .fact (ag (el:=44) (size:=5) (k:=(l++[(⟨x.b,.slice (some ⟨g2,0,none⟩) x.b.recs.length c2⟩:BRow)]).length) (v:=v2) (xs:=(l++[(⟨x.b,.slice (some ⟨g2,0,none⟩) x.b.recs.length c2⟩:BRow)]).flatMap BRow.v)) fun ⟨A9,c9,hv9,_⟩=>?_
      subst hv9
      refine .st ?_ sc40
      refine .nil (.blockNormal ?_)
      refine .rndK hmk ?_ (by repeat (first | exact .here | apply Rem.there | apply Repl.there | apply Mem.there))
      exact ⟨_,.inl ⟨rfl,_,l++[(⟨x.b,.slice (some ⟨g2,0,none⟩) x.b.recs.length c2⟩:BRow)],(g2,.cells cur 95 (0,0)) :: os2,_,⟨by rw [<- hgo,List.map_append,List.append_assoc,show decide (0 < (l++[(⟨x.b,.slice (some ⟨g2,0,none⟩) x.b.recs.length c2⟩:BRow)]).length)=true by simp];rfl,⟨by omega,by rw [List.length_append,List.length_singleton];omega⟩,fun y hy=>(List.mem_append.1 hy).elim (fun h=>(hy4 y h).mono fun z hz=>List.mem_cons_of_mem _ hz) (fun h=>by rw [List.mem_singleton.1 h];exact hnew)⟩,rfl⟩,Am.auto⟩
    ·have hgo:l.map BRow.b++(x.b :: gotB mx (n+((x.k:Nat):Int)) true ((rows.drop (i+1)).map SRow.b++rest))=res:=by
      have h:=hy1
      unfold gotB at h
      rw [<- hxk1] at h
      rwa [if_neg (fun h=>h1 h.2)] at h
     refine WJ.block ?_
     refine WJ.seq ?_
     refine WJ.seq ?_
     refine WJ.region .auto ?_
     refine .ld ?_ sc3
     refine .fact (ag (el:=44) (size:=5) (k:=l.length) (v:=v) (xs:=l.flatMap BRow.v)) fun ⟨A8,c8,hv8,_⟩=>?_
     subst hv8
     refine .move ?_
     refine .add ?_
     refine .st ?_ sc3
     refine .nil ?_
     refine .nextI ?_
     refine WJ.seq ?_
     refine WJ.region .auto ?_
     refine .ld ?_ sc3
     refine .ld ?_ sc3
     refine .gtr ?_
     refine .move ?_
     refine .cast (d:=52) (u:=.bool false) rfl (cB9 (by first | (simp;done) | (exact decide_eq_true (by omega)) | (exact decide_eq_false (by omega)) | (simp;omega) | omega)) ?_
     refine .gF (.gF (.gF (.pickF (.nil ?_))))
     refine .nextI ?_
     refine WJ.condF rfl rfl ?_
     refine WJ.skip ?_
     refine .nextI ?_
     refine WJ.region .auto ?_
     refine .ld ?_ sc40
     refine .ldA ?_ ex
     refine .buildS (fun b60=>?_) (Ij _ _ _ _ _ _ _)
     refine .toE (A:=rowR 95 6 (.slice (some A2) x.b.recs.length c2) x.b.recs.length x.b.rv) (jl hxok.pos) ?_
     rintro ⟨g2,q2,cur⟩ ⟨hv2,htk⟩
     injection hv2 with hA2 _ hc2
     injection hA2 with hA2
     simp only at hA2 hc2 htk
     subst hA2
     subst hc2
     refine .frzAdd ?_
     have hnew:BRowOk ((g2,.cells cur 95 (0,0)) :: os2) (⟨x.b,.slice (some ⟨g2,0,none⟩) x.b.recs.length c2⟩:BRow):=⟨hxok.pos,hxok.len,_,c2,rfl,by
      have:=(Reads.frz (os:=(g2,.cells cur 95 (0,0)) :: os2) (b:=g2) (cs:=cur) (List.mem_cons_self ..)).take x.b.rv.length
      rwa [htk] at this⟩
     refine .append (v:=.slice A8 l.length c8) (m:=1) (k:=l.length) (xs:=l.flatMap BRow.v) (news:=BRow.v (⟨x.b,.slice (some ⟨g2,0,none⟩) x.b.recs.length c2⟩:BRow)) so40 (by decide) (by repeat (first | exact .here | apply Rem.there | apply Repl.there | apply Mem.there)) (Reads.pt (cs:=(BRow.v (⟨x.b,.slice (some ⟨g2,0,none⟩) x.b.recs.length c2⟩:BRow)).toArray)) (by repeat (first | exact .here | apply Rem.there | apply Repl.there | apply Mem.there)) rfl nj (by unfold maxLen;omega) (by omega) ⟨_,z44,rfl⟩ (fun v2 hv2=>?_)
     rw [show l.flatMap BRow.v++BRow.v (⟨x.b,.slice (some ⟨g2,0,none⟩) x.b.recs.length c2⟩:BRow)=(l++[(⟨x.b,.slice (some ⟨g2,0,none⟩) x.b.recs.length c2⟩:BRow)]).flatMap BRow.v by rw [List.flatMap_append,List.flatMap_singleton],show l.length+1=(l++[(⟨x.b,.slice (some ⟨g2,0,none⟩) x.b.recs.length c2⟩:BRow)]).length by simp]
     refine .fact (ag (el:=44) (size:=5) (k:=(l++[(⟨x.b,.slice (some ⟨g2,0,none⟩) x.b.recs.length c2⟩:BRow)]).length) (v:=v2) (xs:=(l++[(⟨x.b,.slice (some ⟨g2,0,none⟩) x.b.recs.length c2⟩:BRow)]).flatMap BRow.v)) fun ⟨A9,c9,hv9,_⟩=>?_
     subst hv9
     refine .st ?_ sc40
     refine .nil (.blockNormal ?_)
     refine .rndK hmk ?_ (by repeat (first | exact .here | apply Rem.there | apply Repl.there | apply Mem.there))
     exact ⟨_,.inl ⟨rfl,_,l++[(⟨x.b,.slice (some ⟨g2,0,none⟩) x.b.recs.length c2⟩:BRow)],(g2,.cells cur 95 (0,0)) :: os2,_,⟨by rw [<- hgo,List.map_append,List.append_assoc,show decide (0 < (l++[(⟨x.b,.slice (some ⟨g2,0,none⟩) x.b.recs.length c2⟩:BRow)]).length)=true by simp];rfl,⟨by omega,by rw [List.length_append,List.length_singleton];omega⟩,fun y hy=>(List.mem_append.1 hy).elim (fun h=>(hy4 y h).mono fun z hz=>List.mem_cons_of_mem _ hz) (fun h=>by rw [List.mem_singleton.1 h];exact hnew)⟩,rfl⟩,Am.auto⟩
   ·rintro F b M B w (⟨rfl,v,l,os2,n,h1,rfl⟩ | ⟨rfl,v,l,os2,n,h1,rfl⟩) hs
    ·exact ⟨_,.inl ⟨rfl,rfl⟩,Sat.shuts (hopen (i+1)) (x:=(v,l,os2,n)) h1 hs⟩
    ·exact ⟨_,.inr ⟨rfl,rfl⟩,Sat.shuts hopenx (x:=(v,l,os2,n)) h1 hs⟩
  refine ⟨pt ll (.loop (mk .ready none)) :: pt b5 (.cells #[.int .i64 mx] 3 (0,0)) :: pt b6 (.cells #[.slice none 0 0] 40 (0,0)) :: pt b7 (.cells #[.int .i64 0] 34 (0,0)) :: pt b8 (.cells #[v] 40 (0,0)) :: pt b9 (.cells #[.int .i64 n] 3 (0,0)) :: rowR 44 5 v l.length (l.flatMap BRow.v) :: frz os :: pt cs (.cells #[.pointer (some ⟨x.s,0,none⟩)] 86 (0,0)) :: pt co (.cells #[.int .i64 off] 3 (0,0)) :: pt x.s (sgO f (d3 dn (aw x.base)) ((x.base:Nat):Int) rows u) :: rowR 151 6 u rows.length (rows.flatMap SRow.v) :: frz ros :: [],_,fun G v M=>v=.tuple #[]/\((∃ (v2:Value) (l2:List BRow) (os2:List (Nat×Obj)) (n2:Int),(l2.map BRow.b++gotB mx n2 (decide (0 < l2.length)) (rest)=res/\(0<=n2/\n2<=6000 * ((l2.length:Nat):Int))/\∀ y∈l2,BRowOk os2 y)/\M=pt ll (.loop (mk .ready none)) :: pt b5 (.cells #[.int .i64 mx] 3 (0,0)) :: pt b6 (.cells #[.slice none 0 0] 40 (0,0)) :: pt b7 (.cells #[.int .i64 0] 34 (0,0)) :: pt b8 (.cells #[v2] 40 (0,0)) :: pt b9 (.cells #[.int .i64 n2] 3 (0,0)) :: rowR 44 5 v2 l2.length (l2.flatMap BRow.v) :: frz os2 :: pt cs (.cells #[.pointer (some ⟨x.s,0,none⟩)] 86 (0,0)) :: pt co (.cells #[.int .i64 off] 3 (0,0)) :: pt x.s (sgO f (d3 dn (aw x.base)) ((x.base:Nat):Int) rows u) :: rowR 151 6 u rows.length (rows.flatMap SRow.v) :: frz ros :: G) ∨ ∃ (v2:Value) (l2:List BRow) (os2:List (Nat×Obj)) (n2:Int),(l2.map BRow.b=res/\∀ y∈l2,BRowOk os2 y)/\M=pt ll (.loop (mk .done (some .ret))) :: pt b5 (.cells #[.int .i64 mx] 3 (0,0)) :: pt b6 (.cells #[v2] 40 (0,0)) :: pt b7 (.cells #[.int .i64 0] 34 (0,0)) :: pt b8 (.cells #[v2] 40 (0,0)) :: pt b9 (.cells #[.int .i64 n2] 3 (0,0)) :: rowR 44 5 v2 l2.length (l2.flatMap BRow.v) :: frz os2 :: pt cs (.cells #[.pointer (some ⟨x.s,0,none⟩)] 86 (0,0)) :: pt co (.cells #[.int .i64 off] 3 (0,0)) :: pt x.s (sgO f (d3 dn (aw x.base)) ((x.base:Nat):Int) rows u) :: rowR 151 6 u rows.length (rows.flatMap SRow.v) :: frz ros :: G),Spec.post' (Spec.pre' (tv (k:=k0) hi.ok hi.ord (by omega) hi.nil hk0 hk1 hk2 hY) (fun B w G hs=>Sat.shuts (hopen k0) (x:=(v,l,os,n)) ⟨hy1,hy2,hy3⟩ hs)) ?_,by repeat (first | exact .nil | (apply Tk.cons;focus ((repeat (first | exact .here | apply Rem.there));done))),?_⟩
  ·rintro G v M B w ⟨rfl,rfl | rfl⟩ hs
   ·obtain ⟨x,⟨hx1,hx2,hx4⟩,hs1⟩:=Sat.opens hs (hopen _)
    rw [List.drop_length] at hx1
    exact ⟨_,⟨rfl,.inl ⟨x.1,x.2.1,x.2.2.1,x.2.2.2,⟨hx1,hx2,hx4⟩,rfl⟩⟩,hs1⟩
   ·obtain ⟨x,hx,hs1⟩:=Sat.opens hs hopenx
    exact ⟨_,⟨rfl,.inr ⟨x.1,x.2.1,x.2.2.1,x.2.2.2,hx,rfl⟩⟩,hs1⟩
  rintro _ M ⟨rfl,⟨v2,l2,os2,n2,⟨hf1,hf2,hf3⟩,rfl⟩ | ⟨v2,l2,os2,n2,⟨hf1,hf3⟩,rfl⟩⟩
  ·refine ⟨.ready,none,_,.here,by decide,?_⟩
   show WQ _ _ _ .normal _ _
   refine .shutR (SGP.opens x.s f (d3 dn (aw x.base)) ((x.base:Nat):Int) x.bs) (rows,u,ros) hi ?_
   refine .segIn (sg.take k) (sg.drop (k+1)) x ?_
   refine .to (A:=segsH f dn (sg.take k++x :: sg.drop (k+1))) (A':=segsH f dn sg) (fun h hh=>by rw [hsp];exact hh) ?_
   refine .markIn ?_
   refine .blockNormal (.blockNormal (.next (.region ?_)))
   refine .add ?_
   refine .move (.nil ?_)
   exact .backD (k+1,(v2,l2,os2,n2),D :: Ds) ⟨by show k+1<=sg.length;omega,by show l2.map BRow.b++gotB mx n2 (decide (0 < l2.length)) (p2 off ((sg.drop (k+1)).map Seg.a))=res;rw [<- hrest];exact hf1,hf2,hf3⟩ (by show sg.length - (k+1) < sg.length - k;omega) rfl
  ·refine ⟨.done,some .ret,_,.here,by decide,?_⟩
   show WC _ _ _ .ret _ _ _
   refine .fact (ag (el:=44) (size:=5) (k:=l2.length) (v:=v2) (xs:=l2.flatMap BRow.v)) fun ⟨A8,c8,hv8,_⟩=>?_
   subst hv8
   refine .shutR (SGP.opens x.s f (d3 dn (aw x.base)) ((x.base:Nat):Int) x.bs) (rows,u,ros) hi ?_
   refine .segIn (sg.take k) (sg.drop (k+1)) x ?_
   refine .to (A:=segsH f dn (sg.take k++x :: sg.drop (k+1))) (A':=segsH f dn sg) (fun h hh=>by rw [hsp];exact hh) ?_
   refine .markIn ?_
   refine .ret (.blockRet (.blockRet (.thenRet (.thenRet (.blockRet (.thenRet (?_)))))))
   refine .shutR (PT.opens pp f dn st dp ss) (g0,c0,sg) ⟨hls,hc1,hc2,hn2⟩ ?_
   refine .shutR (BL.opens (.slice A8 l2.length c8) res) (l2,os2) ⟨hf1,hf3⟩ ?_
   refine .markF (D :: Ds) ?_
   refine .retMs2 (Ds:=D :: Ds) (r:=.cell 6 40) (s:=.cell 7 34) ⟨_,⟨(.slice A8 l2.length c8),rfl,rfl⟩,Am.auto⟩ .here (.cell rfl (by kernel_rfl) (by repeat (first | exact .here | apply Rem.there | apply Repl.there | apply Mem.there)) rfl) (.cell rfl (by kernel_rfl) (by repeat (first | exact .here | apply Rem.there | apply Repl.there | apply Mem.there)) rfl)
 ·have hke:k=sg.length:=by have h:¬ ((k:Nat):Int) < ((sg.length:Nat):Int):=of_decide_eq_false hd;omega
  subst hke
  rw [List.drop_length,List.map_nil,show p2 off []=[] from rfl,show gotB mx n (decide (0 < l.length)) []=[] from rfl,List.append_nil] at hy1
  refine .exit (.thenExit (.thenExit (.blockExit (?_))))
  refine .next (.sr ?_)
  refine .ld ?_ sc40
  refine .fact (ag (el:=44) (size:=5) (k:=l.length) (v:=v) (xs:=l.flatMap BRow.v)) fun ⟨A8,c8,hv8,_⟩=>?_
  subst hv8
  refine .st ?_ sc40
  refine .st ?_ sc34
  refine .z (.ret (?_))
  refine .shutR (PT.opens pp f dn st dp ss) (g0,c0,sg) ⟨hls,hc1,hc2,hn2⟩ ?_
  refine .shutR (BL.opens (.slice A8 l.length c8) res) (l,os) ⟨hy1,hy3⟩ ?_
  refine .markF (Ds) ?_
  refine .retMs2 (Ds:=Ds) (r:=.cell 6 40) (s:=.cell 7 34) ⟨_,⟨(.slice A8 l.length c8),rfl,rfl⟩,Am.auto⟩ .here (.cell rfl (by kernel_rfl) (by repeat (first | exact .here | apply Rem.there | apply Repl.there | apply Mem.there)) rfl) (.cell rfl (by kernel_rfl) (by repeat (first | exact .here | apply Rem.there | apply Repl.there | apply Mem.there)) rfl)
theorem Ja {pp f:Nat} {dn:aa} {st:Sts} {dp:List Value} {ss:List SegA} {off mx:Int} {y z:SegA} {pre post:List SegA} (hs1:ss=y :: post) (hs2:ss=pre++[z]) (htot:(ss.flatMap fun y=>y.2).length<=90000) (hmx:1<=mx) (ho:((y.1:Nat):Int)<=off/\i3 ((z.1:Nat):Int) z.2 < off) :
  Spec Tryz.prog 20 #[.pointer (some ⟨pp,0,none⟩),.int .i64 off,.int .i64 mx] [PT pp f dn st dp ss] fun F v M=>v=.tuple #[.slice none 0 0,.int .i64 12]/\M=PT pp f dn st dp ss :: F:=by
 refine Spec.introM Tryz.func20 rfl rfl fun B F=>?_
 simp only [Tryz.ntmps20,List.cons_append,List.nil_append,env0,Nat.reduceAdd]
 have hlen:∀ y∈ss,y.2.length<=100000:=fun y hy=>by have:=nl hy;omega
 refine .openR (PT.opens pp f dn st dp ss) fun x hx=>?_
 obtain ⟨g0,c0,sg⟩:=x
 obtain ⟨hls,hc1,hc2,hn2⟩:=hx
 simp only [ptLs,List.cons_append,List.nil_append] at hls hc1 hc2 hn2 ⊢
 have hn:0 < sg.length:=by have:=congrArg List.length hls;rw [List.length_map,hs1,List.length_cons] at this;omega
 refine .sr ?_
 refine .box fun b5=>?_
 refine .alloc z40 fun b6=>?_
 refine .alloc z34 fun b7=>?_
 refine .z (.seq (.block (.sr (.move ?_))))
 refine .call (hc:=Tryz.call38) (sp:=ie hn hn2) (h:=?_)
 rintro _ _ ⟨rfl,rfl⟩
 refine .not ?_
 refine .assign (.z ?_)
 refine .condF rfl rfl ?_
 refine .sr ?_
 refine .ld ?_ sc3
 refine .lss ?_
 refine .assign (.z ?_)
 refine .condF rfl (cB9 (by first | (exact decide_eq_true (by omega)) | (exact decide_eq_false (by omega)) | (simp;done) | (simp;omega) | omega)) ?_
 refine .sr (.move (.move ?_))
 refine .shutR (PT.opens pp f dn st dp ss) (g0,c0,sg) ⟨hls,hc1,hc2,hn2⟩ ?_
 refine .call (hc:=Tryz.call19) (sp:=oz (dp:=dp) (ss:=ss) (y:=y) (post:=post) hs1) (h:=?_)
 rintro _ _ ⟨rfl,rfl⟩
 refine .lss ?_
 refine .move ?_
 refine .cast (d:=26) (u:=.bool false) rfl (cB9 (by first | (exact decide_eq_true (by omega)) | (exact decide_eq_false (by omega)) | (simp;done) | (simp;omega) | omega)) ?_
 refine .gT (.move (.gT (.move (.gT ?_))))
 refine .call (hc:=Tryz.call18) (sp:=oy (dp:=dp) (ss:=ss) (pre:=pre) (y:=z) hs2 (hlen z (by rw [hs2];simp))) (h:=?_)
 rintro _ _ ⟨rfl,rfl⟩
 refine .gT ?_
 refine .gtr ?_
 refine .pickF (.assign (.z ?_))
 refine .condT rfl (cB9 (by first | (exact decide_eq_true (by omega)) | (exact decide_eq_false (by omega)) | (simp;done) | (simp;omega) | omega)) ?_
 refine .sr ?_
 refine .st ?_ sc40
 refine .st ?_ sc34
 refine .z ?_
 refine .ret (.blockRet (.thenRet (?_)))
 refine .emp (A:=marksH []) marksH.nil ?_
 refine .retMs2 (Ds:=[]) (r:=.cell 6 40) (s:=.cell 7 34) ⟨_,⟨rfl,rfl⟩,Am.auto⟩ .here (.cell rfl (by kernel_rfl) (by repeat (first | exact .here | apply Rem.there | apply Repl.there | apply Mem.there)) rfl) (.cell rfl (by kernel_rfl) (by repeat (first | exact .here | apply Rem.there | apply Repl.there | apply Mem.there)) rfl)
theorem Jb {k:Int} {n:Nat} (h0:0 < n) (h:0<=k ∨ (n:Int) ∣ k):k.tmod (n:Int)=k % (n:Int):=by
 rw [Int.tmod_eq_emod,if_pos h];omega
theorem Jc {k:Int} {n:Nat} (h0:0 < n) (h:¬ (0<=k ∨ (n:Int) ∣ k)):k.tmod (n:Int)=k % (n:Int) - n:=by
 rw [Int.tmod_eq_emod,if_neg h]
 omega
theorem P2 {k:Int} {n:Nat} (h0:0 < n) (h1:n<=1073741824) (hk:-9223372036854775808<=k/\k<=9223372036854775807):Spec Tryz.prog 15 #[.int .i64 k,nI n] [] fun F v M=>v=.int .i64 (k % (n:Int))/\M=F:=by
 refine Spec.intro Tryz.func15 rfl rfl fun B F=>?_
 simp only [Tryz.ntmps15,List.cons_append,List.nil_append,env0,Nat.reduceAdd]
 have hp:=Int.emod_nonneg k (show (n:Int)≠0 by omega)
 have hl:=Int.emod_lt_of_pos k (show (0:Int) < n by omega)
 by_cases h:0<=k ∨ (n:Int) ∣ k
 ·have ht:=Jb h0 h
  refine .sr (.assign (.x (.move (.move ?_))))
  refine .bin (r:=.int .i64 (k.tmod (n:Int))) ?_ (cr fun w=>by simp [br,Op.intDiv,show (n:Int)≠0 by omega,show n≠0 by omega]) rfl rfl rfl
  refine .cast (d:=7) (u:=.int .i64 (k % (n:Int))) rfl (cI9 ht) ?_
  refine .assign (.z (.seq (.sr (.move ?_))))
  refine .lss ?_
  refine .z ?_
  refine .condF rfl (cB9 (by first|simp;done|simp;omega|omega)) ?_
  refine .skip (.next (.sr (.move (.assign (.z ?_)))))
  refine .ret (?_)
  exact .ret1 (h1:=.tmp (t:=4) rfl) ⟨_,⟨rfl,rfl⟩,Am.auto⟩
 ·have ht:=Jc h0 h
  refine .sr (.assign (.x (.move (.move ?_))))
  refine .bin (r:=.int .i64 (k.tmod (n:Int))) ?_ (cr fun w=>by simp [br,Op.intDiv,show (n:Int)≠0 by omega,show n≠0 by omega]) rfl rfl rfl
  refine .cast (d:=7) (u:=.int .i64 (k % (n:Int) - n)) rfl (cI9 ht) ?_
  refine .assign (.z (.seq (.sr (.move ?_))))
  refine .lss ?_
  refine .z ?_
  refine .condT rfl (cB9 (by first|simp;done|simp;omega|omega)) ?_
  refine .region (.move (.move ?_))
  refine .add ?_
  refine .assign (.x (.move (.assign (.z (.ret (?_))))))
  exact .ret1 (h1:=.tmp (t:=4) rfl) ⟨_,⟨cI9 (by omega),rfl⟩,Am.auto⟩
end Go.Proofs.YtmihjfcbofejoaaGreatDoor
end
