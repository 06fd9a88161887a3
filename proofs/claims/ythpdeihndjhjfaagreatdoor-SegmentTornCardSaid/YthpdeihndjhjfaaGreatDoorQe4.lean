/- A part of the proof of lawSegTorn: texts of this work put together. -/
import Derived.Test.YthpdeihndjhjfaaGreatDoorQe3
import Derived.KernelRfl
import Derived.Lib.IndexLaws
set_option linter.unusedVariables false
set_option linter.unusedSimpArgs false
set_option linter.unusedSectionVars false
section
namespace Go.Proofs.YthpdeihndjhjfaaGreatDoor
open Go
theorem Inv.inode {p:Pl} {V V':Nat->Bytes} {nd:NF} (h:Inv p V nd) (ho:PlOk p) {i:Nat} (hi:i < p.ino) (y:Option (Nd×(Nat->Bool))) (hold:∀ x S,nd i=some (x,S)->∀ k,S k=false) (hy:∀ x S,y=some (x,S)->Fits x/\∀ k,S k=false)
  (h5:Len5 V') (hV:∀ v,p.bm<=v->V' v=V v) (hd:∀ j,j < p.ino->dig V' p.im j=if j=i then y.isSome else dig V p.im j):Inv p V' (updF nd i y):=by
 have hlo:=ho.lo
 have get:∀ j z T k,updF nd i y j=some (z,T)->T k=true->nd j=some (z,T)/\ptr V' z k=ptr V z k:=by
  intro j z T k hj hk
  by_cases hji:j=i
  ·subst hji
   rw [updF_same] at hj
   have:=(hy z T hj).2 k
   rw [hk] at this;cases this
  ·rw [updF_other _ _ hji] at hj
   exact ⟨hj,ptrs_congr (h.sok j z T hj) (fun h2=>hV _ (by have:=h.rng j z T 200 hj h2;rw [ptr_200] at this;omega)) hk⟩
 refine ⟨h5,?_,?_,?_,?_,?_,?_,?_⟩
 ·intro j z T hj
  by_cases hji:j=i
  ·subst hji;rw [updF_same] at hj;exact (hy z T hj).1
  ·rw [updF_other _ _ hji] at hj;exact h.fits j z T hj
 ·intro j z T hj
  by_cases hji:j=i
  ·subst hji;rw [updF_same] at hj
   have:=(hy z T hj).2
   exact ⟨fun k hk=>(by rw [this k] at hk;cases hk),fun k hk=>(by rw [this k] at hk;cases hk)⟩
  ·rw [updF_other _ _ hji] at hj;exact h.sok j z T hj
 ·intro j z T hj
  by_cases hji:j=i
  ·subst hji;exact hi
  ·rw [updF_other _ _ hji] at hj;exact h.lt j z T hj
 ·intro j z T k hj hk
  obtain ⟨h1,h2⟩:=get j z T k hj hk
  rw [h2];exact h.rng j z T k h1 hk
 ·intro j z T k j' z' T' k' hj hk hj' hk' he
  obtain ⟨h1,h2⟩:=get j z T k hj hk
  obtain ⟨h1',h2'⟩:=get j' z' T' k' hj' hk'
  rw [h2,h2'] at he
  exact h.inj _ _ _ _ _ _ _ _ h1 hk h1' hk' he
 ·intro k hk
  have e1:dig V' p.bm k=dig V p.bm k:=by unfold dig;rw [hV _ (by omega)]
  rw [e1,h.map k hk]
  constructor
  ·rintro ⟨j,z,T,l,hj,hl,he⟩
   by_cases hji:j=i
   ·subst hji
    have:=hold z T hj l
    rw [hl] at this;cases this
   ·have hj':updF nd i y j=some (z,T):=by rw [updF_other _ _ hji];exact hj
    exact ⟨j,z,T,l,hj',hl,by rw [(get j z T l hj' hl).2];exact he⟩
  ·rintro ⟨j,z,T,l,hj,hl,he⟩
   obtain ⟨h1,h2⟩:=get j z T l hj hl
   exact ⟨j,z,T,l,h1,hl,by rw [<- h2];exact he⟩
 ·intro j hj
  rw [hd j hj]
  by_cases hji:j=i
  ·subst hji;rw [if_pos rfl,updF_same]
  ·rw [if_neg hji,updF_other _ _ hji];exact h.imap j hj
theorem stdS_zero (k:Nat):stdS 0 k=false:=by unfold stdS;simp
theorem repNd {p:Pl} {V:Nat->Bytes} {F:FM} {i:Nat} {f:Nat×Bytes} (hi:F i=some f):ndOf p V F i=some (ldN p V i,stdS (dat f.2.length)):=by unfold ndOf;rw [hi];rfl
theorem Rep.ndX {p:Pl} {V:Nat->Bytes} {F:FM} (h:Rep p V F) {i:Nat} {f:Nat×Bytes} (hi:F i=some f):ndOf p V F i=some (ldN p V i,stdS (dat (ldN p V i).sz)):=by rw [(h.ok i f hi).sz];exact repNd hi
theorem Rep.digI {p:Pl} {V:Nat->Bytes} {F:FM} (h:Rep p V F) {i:Nat} {f:Nat×Bytes} (hi:F i=some f):i=0 ∨ Go.Proofs.YthpdeihndjhjfaaGreatDoor.dig V p.im i=true:=by
 refine .inr ?_
 rw [h.inv.imap i (h.lt hi),repNd hi];rfl
def fileAt (F:FM) (i:Int):Option (Nat×Bytes):=if 0<=i then F i.toNat else none
theorem fileAt_nat (F:FM) (i:Nat):fileAt F (i:Int)=F i:=by unfold fileAt;rw [if_pos (by omega),Int.toNat_natCast]
theorem Rep.nope {p:Pl} {V:Nat->Bytes} {F:FM} (h:Rep p V F) {i:Int} (hi:fileAt F i=none):¬ (0<=i/\i < p.ino/\(i=0 ∨ Go.Proofs.YthpdeihndjhjfaaGreatDoor.dig V p.im i.toNat=true)):=by
 rintro ⟨h1,h2,h3⟩
 unfold fileAt at hi
 rw [if_pos h1] at hi
 have h4:=h.inv.imap i.toNat (by omega)
 have h5:ndOf p V F i.toNat=none:=by unfold ndOf;rw [hi];rfl
 rw [h5] at h4
 rcases h3 with h3 | h3
 ·subst h3
  have:=h.root
  rw [show (0:Int).toNat=0 from rfl] at hi
  rw [hi] at this;cases this
 ·rw [h4] at h3;cases h3
theorem kp_others {p:Pl} {V V':Nat->Bytes} {F:FM} (h:Rep p V F) (ho:PlOk p) {i:Nat} (hk:Kp p V V' (ndOf p V F) i):∀ j g,j≠i->F j=some g->ldN p V' j=ldN p V j/\∀ k,stdS (dat g.2.length) k=true->V' (ptr V (ldN p V j) k)=V (ptr V (ldN p V j) k) :=
 fun j g hji hj=>⟨hk.ldN ho.tab (h.lt hj),fun k hk'=>hk.oth j _ _ k hji (repNd hj) hk'⟩
theorem Rep.cntle {p:Pl} {V:Nat->Bytes} {F:FM} (h:Rep p V F):tot F p.ino<=p.dc:=by rw [<- h.cn];exact cnt_le _ _ _
def ext (old:Bytes) (n:Nat):Bytes:=old++List.replicate (n - old.length) 0
theorem ext_length (old:Bytes) (n:Nat):(ext old n).length=max old.length n:=by unfold ext;rw [List.length_append,List.length_replicate];omega
theorem ext_getD (old:Bytes) (n q:Nat):(ext old n).getD q 0=old.getD q 0:=by
 unfold ext
 simp only [List.getD_eq_getElem?_getD,List.getElem?_append,List.getElem?_replicate]
 by_cases h:q < old.length
 ·rw [if_pos h]
 ·rw [if_neg h,List.getElem?_eq_none (by omega)]
  split<;>rfl
theorem ext_self {old:Bytes} {n:Nat} (h:n<=old.length):ext old n=old:=by unfold ext;rw [show n - old.length=0 from by omega];simp
def wrB (old:Bytes) (at':Nat) (bs:Bytes):Bytes:=splice (ext old (at'+bs.length)) at' bs
theorem wrB_length (old:Bytes) (at':Nat) (bs:Bytes):(wrB old at' bs).length=max old.length (at'+bs.length):=by
 unfold wrB
 rw [splice_length (by rw [ext_length];omega),ext_length]
theorem wrB_getD (old:Bytes) (at':Nat) (bs:Bytes) (q:Nat):(wrB old at' bs).getD q 0=if at'<=q/\q < at'+bs.length then bs.getD (q - at') 0 else old.getD q 0:=by
 unfold wrB
 rw [splice_getD (by rw [ext_length];omega),ext_getD]
def trB (old:Bytes) (n:Nat):Bytes:=ext (old.take n) n
theorem trB_length (old:Bytes) (n:Nat):(trB old n).length=n:=by unfold trB;rw [ext_length,List.length_take];omega
theorem trB_getD (old:Bytes) (n q:Nat) (h:q < n):(trB old n).getD q 0=old.getD q 0:=by
 unfold trB
 rw [ext_getD,List.getD_eq_getElem?_getD,List.getElem?_take,if_pos h,List.getD_eq_getElem?_getD]
theorem FM_twice (F:FM) (i:Nat) (y z:Option (Nat×Bytes)):updM (updM F i y) i z=updM F i z:=by
 funext j
 unfold updM
 split<;>rfl
theorem Rep.wrote {p:Pl} {V V':Nat->Bytes} {F:FM} (h:Rep p V F) (ho:PlOk p) {i at':Nat} {f:Nat×Bytes} {bs:Bytes} (hi:F i=some f) (hl:at'+bs.length<=f.2.length) (hy:LayR p V V' (ldN p V i) at' (at'+bs.length) bs) :
  Rep p V' (updM F i (some (f.1,wrB f.2 at' bs))):=by
 have hf:=h.ok i f hi
 have hd:=dat_le hf.big
 have hwl:(wrB f.2 at' bs).length=f.2.length:=by rw [wrB_length];omega
 obtain ⟨h1,h2,h3,h4,h5⟩:=hy.stp h.inv ho (repNd hi) (by omega) (fun k k1 k2=>⟨stdS_iff.2 (.inl (by unfold dat;omega)),by unfold dat at hd;omega⟩)
 refine h.laid ho hi hwl h1 h2 h3 fun q hq=>?_
 rw [hwl] at hq
 have hq1:q / 512 < dat f.2.length:=by unfold dat;omega
 rw [h5 q (by omega) (stdS_iff.2 (.inl hq1)),wrB_getD]
 split
 ·rfl
 ·exact hf.byt q hq
theorem Rep.grown {p:Pl} {V V':Nat->Bytes} {F:FM} (h:Rep p V F) (ho:PlOk p) {i size:Nat} {f:Nat×Bytes} {x:Nd} {D D':List Nat} (hi:F i=some f) (hs1:f.2.length<=size) (hs2:size<=70656) (hg:GrowP p V V' (ndOf p V F) i (ldN p V i) x D D' size) :
  Rep p (svV p V' i x) (updM F i (some (f.1,ext f.2 size))):=by
 have hf:=h.ok i f hi
 have hel:(ext f.2 size).length=size:=by rw [ext_length];omega
 refine h.save ho (f:=(f.1,ext f.2 size)) (h.lt hi) (.inl (by rw [hi];simp)) (by show Inv p V' (updF _ i (some (x,stdS (dat (ext f.2 size).length))));rw [hel];exact hg.inv) (kp_others h ho hg.kp) ?_ ?_
 ·refine ⟨hg.kd.trans hf.kd,hf.k12,by show x.sz=(ext f.2 size).length;rw [hel];exact hg.sz,by show (ext f.2 size).length<=70656;omega,fun q hq=>?_⟩
  have hq':q < size:=by rw [<- hel];exact hq
  show fb V' x q=(ext f.2 size).getD q 0
  rw [hg.byt q hq',ext_getD,hf.sz]
  split
  ·rename_i hlt;exact hf.byt q hlt
  ·rename_i hge;rw [List.getD_eq_getElem?_getD,List.getElem?_eq_none (by omega)];rfl
 ·have:=hg.cn
  rw [hf.sz] at this
  rw [hi]
  show cnt V' p.bm p.dc+has f.2.length=cnt V p.bm p.dc+has (ext f.2 size).length
  rw [hel];exact this
theorem Rep.shrunk {p:Pl} {V V':Nat->Bytes} {F:FM} (h:Rep p V F) (ho:PlOk p) {i size:Nat} {f:Nat×Bytes} {x:Nd} {D D':List Nat} (hi:F i=some f) (hs1:size<=f.2.length) (hg:GiL p V V' (ndOf p V F) i (ldN p V i) x D D' size (has f.2.length - has size) (stdS (dat size))) :
  Rep p (svV p V' i ⟨x.kd,size,x.bl⟩) (updM F i (some (f.1,trB f.2 size))):=by
 have hf:=h.ok i f hi
 have hbig:=hf.big
 have hel:=trB_length f.2 size
 have hfx:=hg.inv.fits i x _ (updF_same ..)
 have hm:=hs_mono (dat_mono hs1)
 refine h.save ho (f:=(f.1,trB f.2 size)) (h.lt hi) (.inl (by rw [hi];simp)) ?_ (kp_others h ho hg.kp) ?_ ?_
 ·refine hg.inv.same hg.inv.len (fun _ _=>rfl) (fun _ _=>rfl) fun j=>?_
  by_cases hj:j=i
  ·subst hj
   refine .inr ⟨x,⟨x.kd,size,x.bl⟩,stdS (dat size),updF_same ..,by rw [updF_same];show some (_,stdS (dat (trB f.2 size).length))=_;rw [hel],⟨hfx.bl,fun v hv=>?_⟩,fun _ _=>rfl⟩
   simp only [Nd.nums,List.mem_cons] at hv
   rcases hv with rfl | rfl | hv
   ·exact hfx.lt _ (by simp [Nd.nums])
   ·omega
   ·exact hfx.lt _ (by simp [Nd.nums,hv])
  ·rw [updF_other _ _ hj,updF_other _ _ hj]
   cases hn:ndOf p V F j with
   | none=>exact .inl ⟨rfl,rfl⟩
   | some y =>
    obtain ⟨y,T⟩:=y
    exact .inr ⟨y,y,T,rfl,rfl,hg.inv.fits j y T (by rw [updF_other _ _ hj];exact hn),fun _ _=>rfl⟩
 ·refine ⟨hg.kd.trans hf.kd,hf.k12,hel.symm,by show (trB f.2 size).length<=70656;omega,fun q hq=>?_⟩
  have hq':q < size:=by rw [<- hel];exact hq
  show fb V' x q=(trB f.2 size).getD q 0
  rw [hg.old q hq',trB_getD _ _ _ hq']
  exact hf.byt q (by omega)
 ·rw [hi]
  show cnt V' p.bm p.dc+has f.2.length=cnt V p.bm p.dc+has (trB f.2 size).length
  rw [hel]
  have:=hg.cn
  have e1:=has_hs size
  have e2:=has_hs f.2.length
  omega
theorem cnt_imap {p:Pl} {V:Nat->Bytes} (ho:PlOk p) {i:Nat} (hi:i < p.ino) (on:Bool):cnt (setD V p.im i on) p.bm p.dc=cnt V p.bm p.dc:=by
 have h1:=ho.apart
 have h2:=ho.i2
 exact cnt_same fun k hk=>dig_setD_other _ _ _ _ _ (by omega)
theorem imap_other {p:Pl} {V:Nat->Bytes} (ho:PlOk p) {i:Nat} (hi:i < p.ino) (on:Bool) {v:Nat} (hv:p.bm<=v):setD V p.im i on v=V v:=by
 have h1:=ho.apart
 have h2:=ho.i2
 exact wr_other _ _ (by omega)
theorem Rep.made {p:Pl} {V:Nat->Bytes} {F:FM} (h:Rep p V F) (ho:PlOk p) {i k:Nat} (hi:i < p.ino) (hd:Go.Proofs.YthpdeihndjhjfaaGreatDoor.dig V p.im i=false) (hk:k=1 ∨ k=2):Rep p (svV p (setD V p.im i true) i ⟨k,0,List.replicate 11 0⟩) (updM F i (some (k,[]))):=by
 have hlo:=ho.lo
 have htd:=ho.tbda
 have hn:ndOf p V F i=none:=by
  have:=h.inv.imap i hi
  rw [hd] at this
  cases hh:ndOf p V F i with
  | none=>rfl
  | some y=>rw [hh] at this;cases this
 have hF:F i=none:=by
  unfold ndOf at hn
  cases hh:F i with
  | none=>rfl
  | some y=>rw [hh] at hn;cases hn
 have hi0:i≠0:=fun hh=>by
  subst hh
  have:=h.root
  rw [hF] at this;cases this
 have hfx:Fits ⟨k,0,List.replicate 11 0⟩:=kFits (by omega)
 have hinv:Inv p (setD V p.im i true) (updF (ndOf p V F) i (some (⟨k,0,List.replicate 11 0⟩,stdS (dat ([]:Bytes).length)))):=by
  refine h.inv.inode ho hi _ (fun x S hx=>by rw [hn] at hx;cases hx) (fun x S hx=>by cases hx;exact ⟨hfx,fun k=>stdS_zero k⟩) (setD_len h.inv.len _ _ _) (fun v hv=>imap_other ho hi true hv) (fun j hj=>?_)
  rw [dig_setD h.inv.len];rfl
 refine h.save ho (f:=(k,[])) hi (.inr hi0) hinv (fun j g hji hj=>⟨?_,fun l hl=>?_⟩) ⟨rfl,hk,rfl,Nat.zero_le _,fun q hq=>by cases hq⟩ ?_
 ·unfold ldN
  rw [imap_other ho hi true (by omega)]
 ·have:=h.inv.rng j _ _ l (repNd hj) hl
  exact imap_other ho hi true (by omega)
 ·rw [hF,cnt_imap ho hi]
  show cnt V p.bm p.dc+0=cnt V p.bm p.dc+has 0
  rfl
theorem Rep.mono {p:Pl} {V V':Nat->Bytes} {F:FM} (h:Rep p V F) (ho:PlOk p) (h5:Len5 V') (hV:∀ v,p.im<=v->V' v=V v):Rep p V' F:=by
 have hlo:=ho.lo
 have hap:=ho.apart
 have htbl:=ho.tbl
 have htab:=ho.tab
 have hb:∀ k,k < p.dc->dig V' p.bm k=dig V p.bm k:=fun k _=>by unfold dig;rw [hV _ (by omega)]
 have hi:∀ k,k < p.ino->dig V' p.im k=dig V p.im k:=fun k _=>by unfold dig;rw [hV _ (by omega)]
 have hl:∀ j,ldN p V' j=ldN p V j:=fun j=>by unfold ldN;rw [hV _ (by omega)]
 have hpt:∀ j f,F j=some f->∀ k,stdS (dat f.2.length) k=true->ptr V' (ldN p V j) k=ptr V (ldN p V j) k:=fun j f hj k hk =>
  ptrs_congr (stdS_ok (dat_le (h.ok j f hj).big)) (fun h2=>hV _ (by have:=h.inv.rng j _ _ 200 (repNd hj) h2;rw [ptr_200] at this;omega)) hk
 refine ⟨h.inv.same h5 hb hi fun j=>?_,fun i f hf=>?_,?_,h.root⟩
 ·cases hj:F j with
  | none=>exact .inl ⟨by unfold ndOf;rw [hj];rfl,by unfold ndOf;rw [hj];rfl⟩
  | some f =>
   refine .inr ⟨ldN p V j,ldN p V j,stdS (dat f.2.length),repNd hj,by rw [repNd hj,hl],h.inv.fits j _ _ (repNd hj),hpt j f hj⟩
 ·have h1:=h.ok i f hf
  rw [hl]
  refine ⟨h1.kd,h1.k12,h1.sz,h1.big,fun q hq=>?_⟩
  rw [<- h1.byt q hq]
  have hS:stdS (dat f.2.length) (q / 512)=true:=stdS_iff.2 (.inl (by unfold dat;omega))
  exact fb_congr (hpt i f hf _ hS) (hV _ (by have:=h.inv.rng i _ _ _ (repNd hf) hS;omega))
 ·rw [cnt_same hb];exact h.cn
theorem cm0_len {V:Nat->Bytes} (h:Len5 V):Len5 (cm0 V):=fun k=>by
 unfold cm0
 split
 ·exact zeros_length
 ·exact h k
theorem Rep.cm {p:Pl} {V:Nat->Bytes} {F:FM} (h:Rep p V F) (ho:PlOk p):Rep p (cm0 V) F:=h.mono ho (cm0_len h.inv.len) (fun v hv=>cm0_home V (by have:=ho.aI.lo;omega))
theorem inChg {s c a:Nat} {p:Pl} {V0 V:Nat->Bytes} {D:List Nat} {i:Nat} (ho:PlOk p) (hi:i < p.ino) (hd:i=0 ∨ dig V p.im i=true):Spec Tryz.prog 66 #[.pointer (some ⟨s,0,none⟩),nI i] [pt s (stO c a p),pt a (alO c p),TR c p.n V0 V D true] fun F v M=>v=.tuple #[ndV (ldN p V i),.int .i64 0]/\M=[pt s (stO c a p),pt a (alO c p),TR c p.n V0 V D true]++F:=by
 refine Spec.intro Tryz.func66 rfl rfl fun B F=>?_
 simp only [Tryz.ntmps66,List.cons_append,List.nil_append,env0,Nat.reduceAdd]
 refine .sr ?_
 refine .allocL zNd rfl fun b4=>?_
 refine .assign (.z (.seq (.sr (.move ?_))))
 refine .call (hc:=Tryz.call89) (sp:=inReady (n:=p.n) (V0:=V0) (V:=V) (D:=D) (op:=true)) (h:=?_)
 rintro _ _ ⟨rfl,rfl⟩
 simp only [List.cons_append,List.nil_append]
 refine .not ?_
 refine .z ?_
 refine .condF rfl rfl ?_
 refine .skip (.next (.sr (.move (.move ?_))))
 refine .call (hc:=Tryz.call126) (sp:=inLoad (i:=i) (V0:=V0) (V:=V) (D:=D) (op:=true) ho hi hd) (h:=?_)
 rintro _ _ ⟨rfl,rfl⟩
 simp only [List.cons_append,List.nil_append]
 refine .extract ?_
 refine .extract ?_
 refine .stLA (xs:=ndL nd0) (us:=ndL (ldN p V i)) ?_ agg112 (ndL_length (ldB_fits _ _).bl) rfl (ndL_single _)
 refine .assign (.z ?_)
 refine .ret (?_)
 exact .ret2 (h1:=RV.aggL rfl agg112 (by repeat (first | exact .here | apply Rem.there | apply Repl.there | apply Mem.there)) (ndL_length (ldB_fits _ _).bl)) (h2:=.tmp rfl) ⟨_,⟨rfl,rfl⟩,Am.auto⟩
theorem inWrite {s c a:Nat} {p:Pl} {V0 V:Nat->Bytes} {D:List Nat} {F0:FM} {i at' m cc:Nat} {f:Nat×Bytes} {R:HP} {A:Option Addr} {bs:Bytes} (h:Rep p V F0) (ho:PlOk p) (hi:F0 i=some f) (hdk:Dk p D) (hrm:Rm p D (has (max f.2.length (at'+m)) - has f.2.length+(m+511) / 512+10)) (hR:bs=[] ∨ Reads R A (bvs bs)) (hm:bs.length=m) (hcc:m<=cc) (hcb:cc<=maxLen) (hat:at'<=f.2.length) (hbg:at'+m<=70656) :
  Spec Tryz.prog 57 #[.pointer (some ⟨s,0,none⟩),nI i,nI at',.slice A m cc] [R,pt s (stO c a p),pt a (alO c p),TR c p.n V0 V D true] fun F v M =>
   (p.dc+has f.2.length < tot F0 p.ino+has (max f.2.length (at'+m))/\v=.int .i64 3/\M=[R,pt s (stO c a p),pt a (alO c p),TR c p.n V0 V D true]++F) ∨
   (tot F0 p.ino+has (max f.2.length (at'+m))<=p.dc+has f.2.length/\∃ V' D',Rep p V' (updM F0 i (some (f.1,wrB f.2 at' bs)))/\(Dk p D'/\wt p D'<=wt p D+(has (max f.2.length (at'+m)) - has f.2.length)+(m+511) / 512+5)/\v=okV/\M=[R,pt s (stO c a p),pt a (alO c p),TR c p.n V0 V' D' true]++F):=by
 refine Spec.intro Tryz.func57 rfl rfl fun B F=>?_
 simp only [Tryz.ntmps57,List.cons_append,List.nil_append,env0,Nat.reduceAdd]
 have hf:=h.ok i f hi
 have hsz:=hf.sz
 have hbig:=hf.big
 have hlt:=h.lt hi
 have hi2:=ho.i2
 have hlo:=ho.lo
 have htab:=ho.tab
 have hnd:=repNd (p:=p) (V:=V) hi
 have hfx:=h.inv.fits i _ _ hnd
 have hbl:=hfx.bl
 have hnl:=ndL_length hbl
 have hcl:=h.cntle
 have hszg:(ndL (ldN p V i))[1]?=some (nI f.2.length):=by rw [<- hsz];rfl
 by_cases hgr:f.2.length < at'+m
 ·have hmx:max f.2.length (at'+m)=at'+m:=by omega
  rw [hmx] at hrm ⊢
  have hndx:=h.ndX hi
  refine .sr (.assign (.x (.move (.move ?_))))
  refine .call (hc:=Tryz.call66) (sp:=inChg (i:=i) (V0:=V0) (V:=V) (D:=D) ho (h.lt hi) (h.digI hi)) (h:=?_)
  rintro _ _ ⟨rfl,rfl⟩
  simp only [List.cons_append,List.nil_append]
  refine .move ?_
  refine .extract ?_
  refine .extract ?_
  refine .allocL zNd rfl fun b9=>?_
  refine .stLA (xs:=ndL nd0) (us:=ndL (ldN p V i)) ?_ agg112 hnl rfl (ndL_single _)
  refine .assign (.z (.seq (.block (.sr (.move ?_)))))
  refine .nei ?_
  refine .assign (.z ?_)
  refine .condF rfl rfl ?_
  refine .sr (.move ?_)
  refine .lss ?_
  refine .move ?_
  refine .cast (d:=26) (u:=.bool false) rfl (congrArg Value.bool (by first|simp;done|simp;omega|unfold nI;simp;omega|omega)) ?_
  refine .gT ?_
  refine .move ?_
  refine .gT ?_
  refine .fa ?_ fo112_1
  refine .gT ?_
  refine .ldL (xs:=ndL (ldN p V i)) (i:=1) ?_ sc3 hszg
  refine .gT ?_
  refine .gtr ?_
  refine .pickF ?_
  refine .assign (.z ?_)
  refine .condF rfl (congrArg Value.bool (by first|simp;done|simp;omega|unfold nI;simp;omega|omega)) ?_
  refine .sr (.move ?_)
  refine .lenS ?_ sl59
  refine .move ?_
  refine .sub ?_
  refine .gtr ?_
  refine .assign (.z ?_)
  refine .condF rfl (congrArg Value.bool (by first|simp;done|simp;omega|unfold nI;simp;omega|omega)) ?_
  refine .skip (.blockNormal (.next (.seq (.sr (.move (.move ?_))))))
  refine .lenS ?_ sl59
  refine .add ?_
  refine .fa ?_ fo112_1
  refine .ldL (xs:=ndL (ldN p V i)) (i:=1) ?_ sc3 hszg
  refine .gtr ?_
  refine .z ?_
  refine .condT rfl (congrArg Value.bool (by first|simp;done|simp;omega|unfold nI;simp;omega|omega)) ?_
  refine .seq (.sr (.move (.move (.move ?_))))
  refine .lenS ?_ sl59
  refine .add ?_
  refine .cast (d:=49) (u:=nI (at'+m)) rfl (congrArg (Value.int .i64) (by omega)) ?_
  refine .call (hc:=Tryz.call67) (sp:=inGrow (i:=i) (b:=b9) (size:=at'+m) (x:=ldN p V i) (V0:=V0) (V:=V) (D:=D) h.inv ho hndx hdk (by rw [hsz];omega) (by omega) (hrm.mono (by rw [hsz];omega))) (h:=?_)
  rintro _ _ (⟨hfull,rfl,rfl⟩ | ⟨hle,x1,V1,D1,hG,rfl,rfl⟩)<;>simp only [List.cons_append,List.nil_append]
  ·rw [h.cn,hsz] at hfull
   refine .assign (.x (.move ?_))
   refine .nei ?_
   refine .z ?_
   refine .condT rfl rfl ?_
   refine .sr (.move (.assign (.z ?_)))
   refine .ret (.thenRet (.thenRet (?_)))
   exact .ret1 (h1:=.tmp (t:=8) rfl) ⟨_,.inl ⟨hfull,rfl,rfl⟩,Am.auto⟩
  ·rw [h.cn,hsz] at hle
   have hfx1:=hG.inv.fits i x1 _ (updF_same ..)
   have hbl1:=hfx1.bl
   have hwg:=hG.wt
   rw [hsz] at hwg
   have hhm:has f.2.length<=has (at'+m):=by rw [has_hs,has_hs];exact hs_mono (dat_mono (by omega))
   have hrep:=h.grown ho hi (by omega) (by omega) hG
   have hsd:=inD_ok (p:=p) hG.dk (v:=p.tb+i / 8) (by omega) (by omega)
   have hld2:ldN p (svV p V1 i x1) i=x1:=ldN_svV hG.inv.len hfx1
   have hel:(ext f.2 (at'+m)).length=at'+m:=by rw [ext_length];omega
   have hnd2:=repNd (p:=p) (V:=svV p V1 i x1) (updM_same F0 i (some (f.1,ext f.2 (at'+m))))
   rw [hld2] at hnd2
   simp only [hel] at hnd2
   refine .assign (.x (.move ?_))
   refine .nei ?_
   refine .z ?_
   refine .condF rfl rfl ?_
   refine .skip (.next (.sr (.move (.move ?_))))
   refine .ldW (xs:=ndL x1) ?_ agg112 (ndL_length hbl1)
   refine .call (hc:=Tryz.call69) (sp:=inSave (i:=i) (x:=x1) (V0:=V0) (V:=V1) (D:=D1) ho hlt hfx1 (hG.dk.room (c:=0) (hrm.mono (by omega)))) (h:=?_)
   rintro _ _ ⟨rfl,rfl⟩
   simp only [List.cons_append,List.nil_append]
   refine .assign (.x (.move ?_))
   refine .nei ?_
   refine .z ?_
   refine .condF rfl rfl ?_
   refine .skip (.next (.sr (.move ?_)))
   refine .ldW (xs:=ndL x1) ?_ agg112 (ndL_length hbl1)
   refine .move (.move ?_)
   refine .call (hc:=Tryz.call115) (sp:=inLay (x:=x1) (at':=at') (bs:=bs) (R:=R) (V0:=V0) (V:=svV p V1 i x1) (D:=insD D1 (p.tb+i / 8)) hrep.inv ho hnd2 hsd.1 (hrm.mono (by rw [hm];omega)) hR hm hcc hcb (fun k k1 k2=>⟨stdS_iff.2 (.inl (by unfold dat;omega)),by omega⟩) (by omega) (by omega)) (h:=?_)
   rintro _ _ ⟨V2,D2,hlay,⟨hdk2,hw2⟩,rfl,rfl⟩
   simp only [List.cons_append,List.nil_append]
   refine .assign (.z ?_)
   refine .ret (?_)
   rw [<- hm] at hlay hel
   have hfin:=hrep.wrote ho (at':=at') (bs:=bs) (updM_same ..) (by show at'+bs.length<=(ext f.2 (at'+m)).length;rw [<- hm];omega) (by rw [hld2];exact hlay)
   rw [FM_twice] at hfin
   have hwe:wrB (ext f.2 (at'+m)) at' bs=wrB f.2 at' bs:=by
    unfold wrB
    rw [<- hm,ext_self (old:=ext f.2 (at'+bs.length)) (by omega)]
   simp only [hwe] at hfin
   exact .ret1 (h1:=.tmp (t:=8) rfl) ⟨_,.inr ⟨hle,_,_,hfin,⟨hdk2,by omega⟩,rfl,rfl⟩,Am.auto⟩
 ·have hmx:max f.2.length (at'+m)=f.2.length:=by omega
  rw [hmx] at hrm ⊢
  refine .sr (.assign (.x (.move (.move ?_))))
  refine .call (hc:=Tryz.call66) (sp:=inChg (i:=i) (V0:=V0) (V:=V) (D:=D) ho (h.lt hi) (h.digI hi)) (h:=?_)
  rintro _ _ ⟨rfl,rfl⟩
  simp only [List.cons_append,List.nil_append]
  refine .move ?_
  refine .extract ?_
  refine .extract ?_
  refine .allocL zNd rfl fun b9=>?_
  refine .stLA (xs:=ndL nd0) (us:=ndL (ldN p V i)) ?_ agg112 hnl rfl (ndL_single _)
  refine .assign (.z (.seq (.block (.sr (.move ?_)))))
  refine .nei ?_
  refine .assign (.z ?_)
  refine .condF rfl rfl ?_
  refine .sr (.move ?_)
  refine .lss ?_
  refine .move ?_
  refine .cast (d:=26) (u:=.bool false) rfl (congrArg Value.bool (by first|simp;done|simp;omega|unfold nI;simp;omega|omega)) ?_
  refine .gT ?_
  refine .move ?_
  refine .gT ?_
  refine .fa ?_ fo112_1
  refine .gT ?_
  refine .ldL (xs:=ndL (ldN p V i)) (i:=1) ?_ sc3 hszg
  refine .gT ?_
  refine .gtr ?_
  refine .pickF ?_
  refine .assign (.z ?_)
  refine .condF rfl (congrArg Value.bool (by first|simp;done|simp;omega|unfold nI;simp;omega|omega)) ?_
  refine .sr (.move ?_)
  refine .lenS ?_ sl59
  refine .move ?_
  refine .sub ?_
  refine .gtr ?_
  refine .assign (.z ?_)
  refine .condF rfl (congrArg Value.bool (by first|simp;done|simp;omega|unfold nI;simp;omega|omega)) ?_
  refine .skip (.blockNormal (.next (.seq (.sr (.move (.move ?_))))))
  refine .lenS ?_ sl59
  refine .add ?_
  refine .fa ?_ fo112_1
  refine .ldL (xs:=ndL (ldN p V i)) (i:=1) ?_ sc3 hszg
  refine .gtr ?_
  refine .z ?_
  refine .condF rfl (congrArg Value.bool (by first|simp;done|simp;omega|unfold nI;simp;omega|omega)) ?_
  refine .skip (.next (.sr (.move ?_)))
  refine .ldW (xs:=ndL (ldN p V i)) ?_ agg112 hnl
  refine .move (.move ?_)
  refine .call (hc:=Tryz.call115) (sp:=inLay (x:=ldN p V i) (at':=at') (bs:=bs) (R:=R) (V0:=V0) (V:=V) (D:=D) h.inv ho hnd hdk (hrm.mono (by rw [hm];omega)) hR hm hcc hcb (fun k k1 k2=>⟨stdS_iff.2 (.inl (by unfold dat;omega)),by omega⟩) (by omega) (by omega)) (h:=?_)
  rintro _ _ ⟨V2,D2,hlay,⟨hdk2,hw2⟩,rfl,rfl⟩
  simp only [List.cons_append,List.nil_append]
  refine .assign (.z ?_)
  refine .ret (?_)
  rw [<- hm] at hlay
  have hfin:=h.wrote ho hi (by omega) hlay
  exact .ret1 (h1:=.tmp (t:=8) rfl) ⟨_,.inr ⟨by omega,_,_,hfin,⟨hdk2,by omega⟩,rfl,rfl⟩,Am.auto⟩
theorem inTrunc {s c a:Nat} {p:Pl} {V0 V:Nat->Bytes} {D:List Nat} {F0:FM} {i size:Nat} {f:Nat×Bytes} (h:Rep p V F0) (ho:PlOk p) (hi:F0 i=some f) (hdk:Dk p D) (hrm:Rm p D (has size - has f.2.length+8)) (hbg:size<=70656) :
  Spec Tryz.prog 36 #[.pointer (some ⟨s,0,none⟩),nI i,nI size] [pt s (stO c a p),pt a (alO c p),TR c p.n V0 V D true] fun F v M =>
   (p.dc+has f.2.length < tot F0 p.ino+has size/\v=.int .i64 3/\M=[pt s (stO c a p),pt a (alO c p),TR c p.n V0 V D true]++F) ∨
   (tot F0 p.ino+has size<=p.dc+has f.2.length/\∃ V' D',Rep p V' (updM F0 i (some (f.1,trB f.2 size)))/\(Dk p D'/\wt p D'<=wt p D+(has size - has f.2.length)+4)/\v=okV/\M=[pt s (stO c a p),pt a (alO c p),TR c p.n V0 V' D' true]++F):=by
 refine Spec.intro Tryz.func36 rfl rfl fun B F=>?_
 simp only [Tryz.ntmps36,List.cons_append,List.nil_append,env0,Nat.reduceAdd]
 have hf:=h.ok i f hi
 have hsz:=hf.sz
 have hbig:=hf.big
 have hlt:=h.lt hi
 have hi2:=ho.i2
 have hlo:=ho.lo
 have htab:=ho.tab
 have hnd:=repNd (p:=p) (V:=V) hi
 have hfx:=h.inv.fits i _ _ hnd
 have hbl:=hfx.bl
 have hnl:=ndL_length hbl
 have hcl:=h.cntle
 have hszg:(ndL (ldN p V i))[1]?=some (nI f.2.length):=by rw [<- hsz];rfl
 have hndx:=h.ndX hi
 rcases (show f.2.length < size ∨ size < f.2.length ∨ size=f.2.length from by omega) with hc | hc | hc
 ·refine .sr (.assign (.x (.move (.move ?_))))
  refine .call (hc:=Tryz.call66) (sp:=inChg (i:=i) (V0:=V0) (V:=V) (D:=D) ho (h.lt hi) (h.digI hi)) (h:=?_)
  rintro _ _ ⟨rfl,rfl⟩
  simp only [List.cons_append,List.nil_append]
  refine .move ?_
  refine .extract ?_
  refine .extract ?_
  refine .allocL zNd rfl fun b7=>?_
  refine .stLA (xs:=ndL nd0) (us:=ndL (ldN p V i)) ?_ agg112 hnl rfl (ndL_single _)
  refine .assign (.z (.seq (.block (.sr (.move ?_)))))
  refine .nei ?_
  refine .assign (.z ?_)
  refine .condF rfl rfl ?_
  refine .sr (.move ?_)
  refine .lss ?_
  refine .assign (.z ?_)
  refine .condF rfl (congrArg Value.bool (by first|simp;done|simp;omega|unfold nI;simp;omega|omega)) ?_
  refine .sr (.move ?_)
  refine .gtr ?_
  refine .assign (.z ?_)
  refine .condF rfl (congrArg Value.bool (by first|simp;done|simp;omega|unfold nI;simp;omega|omega)) ?_
  refine .sr (.move ?_)
  refine .fa ?_ fo112_1
  refine .ldL (xs:=ndL (ldN p V i)) (i:=1) ?_ sc3 hszg
  refine .gtr ?_
  refine .assign (.z ?_)
  refine .condT rfl (congrArg Value.bool (by first|simp;done|simp;omega|unfold nI;simp;omega|omega)) ?_
  refine .region (.move (.move ?_))
  refine .call (hc:=Tryz.call67) (sp:=inGrow (i:=i) (b:=b7) (size:=size) (x:=ldN p V i) (V0:=V0) (V:=V) (D:=D) h.inv ho hndx hdk (by rw [hsz];omega) (by omega) (hrm.mono (by rw [hsz];omega))) (h:=?_)
  rintro _ _ (⟨hfull,rfl,rfl⟩ | ⟨hle,x1,V1,D1,hG,rfl,rfl⟩)<;>simp only [List.cons_append,List.nil_append]
  ·rw [h.cn,hsz] at hfull
   refine .assign (.nil (.blockNormal (.next (.seq (.sr (.move ?_))))))
   refine .nei ?_
   refine .z ?_
   refine .condT rfl rfl ?_
   refine .sr (.move (.assign (.z ?_)))
   refine .ret (.thenRet (?_))
   exact .ret1 (h1:=.tmp (t:=6) rfl) ⟨_,.inl ⟨hfull,rfl,rfl⟩,Am.auto⟩
  ·rw [h.cn,hsz] at hle
   have hfx1:=hG.inv.fits i x1 _ (updF_same ..)
   have hbl1:=hfx1.bl
   have hwg:=hG.wt
   rw [hsz] at hwg
   have hhm:has f.2.length<=has size:=by rw [has_hs,has_hs];exact hs_mono (dat_mono (by omega))
   have hrep:=h.grown ho hi (by omega) (by omega) hG
   have hsd:=inD_ok (p:=p) hG.dk (v:=p.tb+i / 8) (by omega) (by omega)
   have htr:trB f.2 size=ext f.2 size:=by unfold trB;rw [List.take_of_length_le (by omega)]
   refine .assign (.nil (.blockNormal (.next (.seq (.sr (.move ?_))))))
   refine .nei ?_
   refine .z ?_
   refine .condF rfl rfl ?_
   refine .skip (.next (.sr (.move (.move ?_))))
   refine .ldW (xs:=ndL x1) ?_ agg112 (ndL_length hbl1)
   refine .call (hc:=Tryz.call69) (sp:=inSave (i:=i) (x:=x1) (V0:=V0) (V:=V1) (D:=D1) ho hlt hfx1 (hG.dk.room (c:=0) (hrm.mono (by omega)))) (h:=?_)
   rintro _ _ ⟨rfl,rfl⟩
   simp only [List.cons_append,List.nil_append]
   refine .assign (.z ?_)
   refine .ret (?_)
   exact .ret1 (h1:=.tmp (t:=6) rfl) ⟨_,.inr ⟨hle,_,_,by rw [htr];exact hrep,⟨hsd.1,by omega⟩,rfl,rfl⟩,Am.auto⟩
 ·refine .sr (.assign (.x (.move (.move ?_))))
  refine .call (hc:=Tryz.call66) (sp:=inChg (i:=i) (V0:=V0) (V:=V) (D:=D) ho (h.lt hi) (h.digI hi)) (h:=?_)
  rintro _ _ ⟨rfl,rfl⟩
  simp only [List.cons_append,List.nil_append]
  refine .move ?_
  refine .extract ?_
  refine .extract ?_
  refine .allocL zNd rfl fun b7=>?_
  refine .stLA (xs:=ndL nd0) (us:=ndL (ldN p V i)) ?_ agg112 hnl rfl (ndL_single _)
  refine .assign (.z (.seq (.block (.sr (.move ?_)))))
  refine .nei ?_
  refine .assign (.z ?_)
  refine .condF rfl rfl ?_
  refine .sr (.move ?_)
  refine .lss ?_
  refine .assign (.z ?_)
  refine .condF rfl (congrArg Value.bool (by first|simp;done|simp;omega|unfold nI;simp;omega|omega)) ?_
  refine .sr (.move ?_)
  refine .gtr ?_
  refine .assign (.z ?_)
  refine .condF rfl (congrArg Value.bool (by first|simp;done|simp;omega|unfold nI;simp;omega|omega)) ?_
  refine .sr (.move ?_)
  refine .fa ?_ fo112_1
  refine .ldL (xs:=ndL (ldN p V i)) (i:=1) ?_ sc3 hszg
  refine .gtr ?_
  refine .assign (.z ?_)
  refine .condF rfl (congrArg Value.bool (by first|simp;done|simp;omega|unfold nI;simp;omega|omega)) ?_
  refine .sr (.move ?_)
  refine .fa ?_ fo112_1
  refine .ldL (xs:=ndL (ldN p V i)) (i:=1) ?_ sc3 hszg
  refine .lss ?_
  refine .assign (.z ?_)
  refine .condT rfl (congrArg Value.bool (by first|simp;done|simp;omega|unfold nI;simp;omega|omega)) ?_
  refine .sr (.move (.move ?_))
  refine .call (hc:=Tryz.call68) (sp:=inGive (i:=i) (b:=b7) (size:=size) (x:=ldN p V i) (V0:=V0) (V:=V) (D:=D) h.inv ho hndx hdk (by rw [hsz];omega) (by rw [hsz];omega) (hrm.mono (by omega))) (h:=?_)
  rintro _ _ ⟨x1,V1,D1,hG,rfl,rfl⟩
  simp only [List.cons_append,List.nil_append]
  have hfx1:=hG.inv.fits i x1 _ (updF_same ..)
  have hbl1:=hfx1.bl
  rw [hsz] at hG
  have hrep:=h.shrunk ho hi (by omega) hG
  have hsd:=inD_ok (p:=p) hG.dk (v:=p.tb+i / 8) (by omega) (by omega)
  have hwg:=hG.wt
  have hfx2:Fits ⟨x1.kd,size,x1.bl⟩:=⟨hfx1.bl,fun v hv=>by
   simp only [Nd.nums,List.mem_cons] at hv
   rcases hv with rfl | rfl | hv
   ·exact hfx1.lt _ (by simp [Nd.nums])
   ·omega
   ·exact hfx1.lt _ (by simp [Nd.nums,hv])⟩
  have hhm:has size<=has f.2.length:=by rw [has_hs,has_hs];exact hs_mono (dat_mono (by omega))
  refine .assign (.y (.move ?_))
  refine .fa ?_ fo112_1
  refine .stL (xs:=ndL x1) (i:=1) ?_ sc3 (by rw [ndL_length hbl1];decide)
  refine .to (A:=row b7 112 ((ndL x1).set 1 (nI size))) (A':=row b7 112 (ndL ⟨x1.kd,size,x1.bl⟩)) (fun h hh=>hh) ?_
  refine .nil (.blockNormal (.next (.seq (.sr (.move ?_)))))
  refine .nei ?_
  refine .z ?_
  refine .condF rfl rfl ?_
  refine .skip (.next (.sr (.move (.move ?_))))
  refine .ldW (xs:=ndL ⟨x1.kd,size,x1.bl⟩) ?_ agg112 (ndL_length hbl1)
  refine .call (hc:=Tryz.call69) (sp:=inSave (i:=i) (x:=⟨x1.kd,size,x1.bl⟩) (V0:=V0) (V:=V1) (D:=D1) ho hlt hfx2 (hG.dk.room (c:=0) (hrm.mono (by omega)))) (h:=?_)
  rintro _ _ ⟨rfl,rfl⟩
  simp only [List.cons_append,List.nil_append]
  refine .assign (.z ?_)
  refine .ret (?_)
  exact .ret1 (h1:=.tmp (t:=6) rfl) ⟨_,.inr ⟨by omega,_,_,hrep,⟨hsd.1,by omega⟩,rfl,rfl⟩,Am.auto⟩
 ·have hG:GiL p V V (ndOf p V F0) i (ldN p V i) (ldN p V i) D D size (has f.2.length - has size) (stdS (dat size)):=by
   refine ⟨by rw [hc,updF_self hnd];exact h.inv,Kp.refl _ _ _ _,rfl,rfl,by rw [hc,Nat.sub_self];rfl,fun _ _=>rfl,hdk,rfl⟩
  have hxe:(⟨(ldN p V i).kd,size,(ldN p V i).bl⟩:Nd)=ldN p V i:=by rw [hc,<-hsz]
  have hrep:=h.shrunk ho hi (by omega) hG
  rw [hxe] at hrep
  have hsd:=inD_ok (p:=p) hdk (v:=p.tb+i / 8) (by omega) (by omega)
  refine .sr (.assign (.x (.move (.move ?_))))
  refine .call (hc:=Tryz.call66) (sp:=inChg (i:=i) (V0:=V0) (V:=V) (D:=D) ho (h.lt hi) (h.digI hi)) (h:=?_)
  rintro _ _ ⟨rfl,rfl⟩
  simp only [List.cons_append,List.nil_append]
  refine .move ?_
  refine .extract ?_
  refine .extract ?_
  refine .allocL zNd rfl fun b7=>?_
  refine .stLA (xs:=ndL nd0) (us:=ndL (ldN p V i)) ?_ agg112 hnl rfl (ndL_single _)
  refine .assign (.z (.seq (.block (.sr (.move ?_)))))
  refine .nei ?_
  refine .assign (.z ?_)
  refine .condF rfl rfl ?_
  refine .sr (.move ?_)
  refine .lss ?_
  refine .assign (.z ?_)
  refine .condF rfl (congrArg Value.bool (by first|simp;done|simp;omega|unfold nI;simp;omega|omega)) ?_
  refine .sr (.move ?_)
  refine .gtr ?_
  refine .assign (.z ?_)
  refine .condF rfl (congrArg Value.bool (by first|simp;done|simp;omega|unfold nI;simp;omega|omega)) ?_
  refine .sr (.move ?_)
  refine .fa ?_ fo112_1
  refine .ldL (xs:=ndL (ldN p V i)) (i:=1) ?_ sc3 hszg
  refine .gtr ?_
  refine .assign (.z ?_)
  refine .condF rfl (congrArg Value.bool (by first|simp;done|simp;omega|unfold nI;simp;omega|omega)) ?_
  refine .sr (.move ?_)
  refine .fa ?_ fo112_1
  refine .ldL (xs:=ndL (ldN p V i)) (i:=1) ?_ sc3 hszg
  refine .lss ?_
  refine .assign (.z ?_)
  refine .condF rfl (congrArg Value.bool (by first|simp;done|simp;omega|unfold nI;simp;omega|omega)) ?_
  refine .skip (.blockNormal (.next (.seq (.sr (.move ?_)))))
  refine .nei ?_
  refine .z ?_
  refine .condF rfl rfl ?_
  refine .skip (.next (.sr (.move (.move ?_))))
  refine .ldW (xs:=ndL (ldN p V i)) ?_ agg112 hnl
  refine .call (hc:=Tryz.call69) (sp:=inSave (i:=i) (x:=ldN p V i) (V0:=V0) (V:=V) (D:=D) ho hlt hfx (hdk.room (c:=0) (hrm.mono (by omega)))) (h:=?_)
  rintro _ _ ⟨rfl,rfl⟩
  simp only [List.cons_append,List.nil_append]
  refine .assign (.z ?_)
  refine .ret (?_)
  exact .ret1 (h1:=.tmp (t:=6) rfl) ⟨_,.inr ⟨by rw [hc];omega,_,_,hrep,⟨hsd.1,by omega⟩,rfl,rfl⟩,Am.auto⟩
theorem read_step {V:Nat->Bytes} {x:Nd} {bs:Bytes} {cur mm at':Nat} (hb:∀ q,q < bs.length->fb V x q=bs.getD q 0) (h1:cur % 512+mm<=512) (h2:cur+mm<=bs.length) (h3:at'<=cur) (h5:(V (ptr V x (cur / 512))).length=512) :
  (bs.drop at').take (cur+mm - at')=(bs.drop at').take (cur - at')++((V (ptr V x (cur / 512))).drop (cur % 512)).take mm:=by
 rw [show cur+mm - at'=(cur - at')+mm from by omega,List.take_add,List.drop_drop,show at'+(cur - at')=cur from by omega]
 congr 1
 apply List.ext_getElem?
 intro j
 simp only [List.getElem?_take,List.getElem?_drop]
 by_cases hj:j < mm
 ·rw [if_pos hj,if_pos hj]
  have:=hb (cur+j) (by omega)
  unfold fb at this
  rw [show (cur+j) / 512=cur / 512 from by omega,show (cur+j) % 512=cur % 512+j from by omega,List.getD_eq_getElem?_getD,List.getD_eq_getElem?_getD,List.getElem?_eq_getElem (by omega),List.getElem?_eq_getElem (by omega)] at this
  rw [List.getElem?_eq_getElem (by omega),List.getElem?_eq_getElem (by omega)]
  exact congrArg some this.symm
 ·rw [if_neg hj,if_neg hj]
theorem inRead {s c a:Nat} {p:Pl} {V0 V:Nat->Bytes} {D:List Nat} {op:Bool} {F0:FM} {i at' k:Nat} {f:Nat×Bytes} (h:Rep p V F0) (ho:PlOk p) (hi:F0 i=some f) (hat:at'<=9223372036854775807) (hk:k<=9223372036854775807) :
  Spec Tryz.prog 70 #[.pointer (some ⟨s,0,none⟩),nI i,nI at',nI k] [pt s (stO c a p),pt a (alO c p),TR c p.n V0 V D op] fun F v M=>∃ u,v=.tuple #[u,.int .i64 0]/\M=rowR 5 1 u ((f.2.drop at').take k).length (bvs ((f.2.drop at').take k)) :: [pt s (stO c a p),pt a (alO c p),TR c p.n V0 V D op]++F:=by
 refine Spec.intro Tryz.func70 rfl rfl fun B F=>?_
 simp only [Tryz.ntmps70,List.cons_append,List.nil_append,env0,Nat.reduceAdd]
 have hf:=h.ok i f hi
 have hsz:=hf.sz
 have hbig:=hf.big
 have hlt:=h.lt hi
 have hi2:=ho.i2
 have hlo:=ho.lo
 have htab:=ho.tab
 have hnd:=repNd (p:=p) (V:=V) hi
 have hfx:=h.inv.fits i _ _ hnd
 have hbl:=hfx.bl
 have hnl:=ndL_length hbl
 have hcl:=h.cntle
 have hszg:(ndL (ldN p V i))[1]?=some (nI f.2.length):=by rw [<- hsz];rfl
 have hmxl:maxLen=9223372036854775807:=rfl
 have hd138:=dat_le hbig
 rcases (show ¬ at' < f.2.length ∨ (at' < f.2.length/\k < f.2.length - at') ∨ (at' < f.2.length/\¬ k < f.2.length - at') from by omega) with hc | ⟨hc,hc2⟩ | ⟨hc,hc2⟩
 ·obtain ⟨en,hen,hen1,hen2⟩:∃ en,en=f.2.length/\en<=f.2.length/\(f.2.drop at').take k=(f.2.drop at').take (en - at'):=⟨_,rfl,by omega,by rw [List.drop_eq_nil_of_le (by omega),List.take_nil,List.take_nil]⟩
  refine .sr (.assign (.assign (.x (.move (.move ?_)))))
  refine .call (hc:=Tryz.call126) (sp:=inLoad (i:=i) (V0:=V0) (V:=V) (D:=D) (op:=op) ho (h.lt hi) (h.digI hi)) (h:=?_)
  rintro _ _ ⟨rfl,rfl⟩
  simp only [List.cons_append,List.nil_append]
  refine .move ?_
  refine .extract ?_
  refine .extract ?_
  refine .allocL zNd rfl fun b10=>?_
  refine .stLA (xs:=ndL nd0) (us:=ndL (ldN p V i)) ?_ agg112 hnl rfl (ndL_single _)
  refine .assign (.z (.seq (.sr (.move ?_))))
  refine .nei ?_
  refine .z ?_
  refine .condF rfl rfl ?_
  refine .skip (.next (.seq (.sr (.move ?_))))
  refine .lss ?_
  refine .move ?_
  refine .cast (d:=30) (u:=.bool false) rfl (congrArg Value.bool (by first|simp;done|simp;omega|unfold nI;simp;omega|omega)) ?_
  refine .gT ?_
  refine .move ?_
  refine .gT ?_
  refine .lss ?_
  refine .pickF ?_
  refine .z ?_
  refine .condF rfl (congrArg Value.bool (by first|simp;done|simp;omega|unfold nI;simp;omega|omega)) ?_
  refine .skip (.next (.sr ?_))
  refine .fa ?_ fo112_1
  refine .ldL (xs:=ndL (ldN p V i)) (i:=1) ?_ sc3 hszg
  refine .cast (d:=35) (u:=nI en) rfl (congrArg nI hen.symm) ?_
  refine .assign (.z (.seq (.sr (.move (.move ?_)))))
  refine .lss ?_
  refine .move ?_
  refine .cast (d:=39) (u:=.bool false) rfl (congrArg Value.bool (by first|simp;done|simp;omega|unfold nI;simp;omega|omega)) ?_
  refine .gF ?_
  refine .gF ?_
  refine .gF ?_
  refine .gF ?_
  refine .gF ?_
  refine .pickF ?_
  refine .z ?_
  refine .condF rfl rfl ?_
  refine .skip (.next (.sr (.assign ?_)))
  refine .emp (A:=rowR 5 1 (.slice none 0 0) (at' - at') (bvs ((f.2.drop at').take (at' - at')))) (by rw [Nat.sub_self];exact rowR.nil _) ?_
  refine .z (.seq (.block ?_))
  refine .loopA (σ:=Nat×Value) (fun y=>[(0,.pointer (some ⟨s,0,none⟩)),(2,nI y.1),(10,.pointer (some ⟨b10,0,none⟩)),(12,nI en),(13,y.2)]) (fun y=>[rowR 5 1 y.2 (y.1 - at') (bvs ((f.2.drop at').take (y.1 - at'))),row b10 112 (ndL (ldN p V i)),pt s (stO c a p),pt a (alO c p),TR c p.n V0 V D op]++F) (fun y=>at'<=y.1/\(y.1<=en ∨ y.1=at')) (fun y=>en - y.1) (at',.slice none 0 0) ⟨Nat.le_refl _,.inr rfl⟩ ?_
  rintro ⟨cur,u⟩ hy
  obtain ⟨hc1,hc2⟩:=hy
  simp only at hc1 hc2
  refine .seq (.sr (.move (.move ?_)))
  refine .lss ?_
  refine .z ?_
  refine .cond rfl (fun hb=>?_) (fun hb=>?_)
  ·have hlt2:cur < en:=by have:=of_decide_eq_true hb;omega
   obtain ⟨mm,hmm⟩:∃ mm,mm=min (512 - cur % 512) (en - cur):=⟨_,rfl⟩
   have hSk:stdS (dat f.2.length) (cur / 512)=true:=stdS_iff.2 (.inl (by unfold dat;omega))
   have hrk:=h.inv.rng i _ _ _ hnd hSk
   have hV200:10<=cur / 512->245<=(ldN p V i).bl.getD 10 0/\(ldN p V i).bl.getD 10 0 < p.n:=fun h10=>by
    have:=h.inv.rng i _ _ 200 hnd (stdS_iff.2 (.inr ⟨rfl,by unfold dat;omega⟩))
    rw [ptr_200] at this
    omega
   have hrs:=read_step (cur:=cur) (mm:=mm) (at':=at') hf.byt (by omega) (by omega) hc1 (h.inv.len _)
   refine .skip (.next (.block (.sr (.move ?_))))
   refine .ldW (xs:=ndL (ldN p V i)) ?_ agg112 hnl
   refine .move ?_
   refine .quo ?_
   refine .cast (d:=56) (u:=nI (cur / 512)) rfl (congrArg (Value.int .i64) (by omega)) ?_
   refine .call (hc:=Tryz.call131) (sp:=inBlock (x:=ldN p V i) (k:=cur / 512) (V0:=V0) (V:=V) (D:=D) (op:=op) hbl (by omega) hV200) (h:=?_)
   rintro _ _ ⟨rfl,rfl⟩
   simp only [List.cons_append,List.nil_append]
   refine .move ?_
   refine .extract ?_
   refine .extract ?_
   refine .assign (.assign (.z (.seq (.sr (.move ?_)))))
   refine .nei ?_
   refine .z ?_
   refine .condF rfl rfl ?_
   refine .skip (.next (.sr (.move ?_)))
   refine .nilCheck ?_
   refine .fa ?_ fo198_0
   refine .ld ?_ sc76
   refine .move ?_
   refine .call (hc:=Tryz.call134) (sp:=tRead (n:=p.n) (V0:=V0) (V:=V) (D:=D) (op:=op) (k:=ptr V (ldN p V i) (cur / 512)) (by omega) (by omega)) (h:=?_)
   rintro _ _ ⟨gb,q,el,rfl,⟨hq1,hq2,hl5⟩,rfl⟩
   refine .move ?_
   refine .extract ?_
   refine .extract ?_
   refine .assign (.assign (.z (.seq (.sr (.move ?_)))))
   refine .nei ?_
   refine .z ?_
   refine .condF rfl rfl ?_
   refine .skip (.next (.sr (.move ?_)))
   refine .rem ?_
   refine .cast (d:=76) (u:=nI (cur % 512)) rfl (congrArg (Value.int .i64) (by omega)) ?_
   refine .assign (.x (.move (.move ?_)))
   refine .add ?_
   refine .move ?_
   refine .sub ?_
   refine .minI ?_
   refine .cast (d:=82) (u:=nI (cur % 512+mm)) rfl (congrArg (Value.int .i64) (by split<;>omega)) ?_
   refine .assign (.x (.move (.move (.move (.move ?_)))))
   refine .slcLH ?_ so59
   refine .cast (d:=87) (u:=.slice (some ⟨gb,cur % 512,none⟩) mm (q - cur % 512)) rfl (by rw [show ((cur % 512:Nat):Int).toNat=cur % 512 from Int.toNat_natCast _,show ((cur % 512+mm:Nat):Int).toNat=cur % 512+mm from Int.toNat_natCast _,if_neg (by omega),Nat.zero_add,Nat.mul_one,show cur % 512+mm - cur % 512=mm from by omega]) ?_
   have hnews:Reads (buf gb el q (bvs (V (ptr V (ldN p V i) (cur / 512))))) (some ⟨gb,cur % 512,none⟩) (bvs (((V (ptr V (ldN p V i) (cur / 512))).drop (cur % 512)).take mm)):=by
    have:=(Reads.buf (g:=gb) (e:=el) (k:=q) (xs:=bvs (V (ptr V (ldN p V i) (cur / 512))))).drop (cur % 512)
    rw [Nat.zero_add] at this
    rw [bvs_take,bvs_drop]
    exact this.take mm
   refine .appendAny (m:=mm) so59 (by decide) (by repeat (first | exact .here | apply Rem.there | apply Repl.there | apply Mem.there)) hnews (by repeat (first | exact .here | apply Rem.there | apply Repl.there | apply Mem.there)) (by rw [bvs_length,List.length_take,List.length_drop,hl5];omega) (bvs_single _) (by omega) (by omega) ⟨_,z5,rfl⟩ (fun vB hvB=>?_)
   refine .assign (.y (.move (.move (.move ?_))))
   refine .sub ?_
   refine .add ?_
   refine .cast (d:=93) (u:=nI (cur+mm)) rfl (congrArg (Value.int .i64) (by omega)) ?_
   refine .assign (.nil (.blockNormal ?_))
   refine .to (A:=rowR 5 1 vB (cur - at'+mm) (bvs ((f.2.drop at').take (cur - at'))++bvs (((V (ptr V (ldN p V i) (cur / 512))).drop (cur % 512)).take mm))) (A':=rowR 5 1 vB (cur+mm - at') (bvs ((f.2.drop at').take (cur+mm - at')))) (fun h hh=>by rw [hrs,bvs_append,show cur+mm - at'=cur - at'+mm from by omega];exact hh) ?_
   exact .back (cur+mm,vB) ⟨by show at'<=cur+mm;omega,by show cur+mm<=en ∨ cur+mm=at';omega⟩ (by show en - (cur+mm) < en - cur;omega)
  ·have hge:¬ cur < en:=by have:=of_decide_eq_false hb;omega
   have hfe:(f.2.drop at').take (cur - at')=(f.2.drop at').take k:=by
    rw [hen2]
    rcases hc2 with h1 | h1
    ·rw [show cur=en from by omega]
    ·rw [show cur - at'=0 from by omega,show en - at'=0 from by omega]
   have hfl:((f.2.drop at').take k).length=cur - at':=by
    rw [<- hfe,List.length_take,List.length_drop]
    omega
   refine .exit (.thenExit (.thenExit (.blockExit (?_))))
   refine .next (.sr (.move (.assign (.assign (.z ?_)))))
   refine .ret (?_)
   refine .to (A:=rowR 5 1 u (cur - at') (bvs ((f.2.drop at').take (cur - at')))) (A':=rowR 5 1 u ((f.2.drop at').take k).length (bvs ((f.2.drop at').take k))) (fun h hh=>by rw [hfl,<-hfe];exact hh) ?_
   exact .ret2 (h1:=.tmp (t:=8) rfl) (h2:=.tmp (t:=9) rfl) ⟨_,⟨u,rfl,rfl⟩,Am.auto⟩
 ·obtain ⟨en,hen,hen1,hen2⟩:∃ en,en=at'+k/\en<=f.2.length/\(f.2.drop at').take k=(f.2.drop at').take (en - at'):=⟨_,rfl,by omega,by congr 1;omega⟩
  refine .sr (.assign (.assign (.x (.move (.move ?_)))))
  refine .call (hc:=Tryz.call126) (sp:=inLoad (i:=i) (V0:=V0) (V:=V) (D:=D) (op:=op) ho (h.lt hi) (h.digI hi)) (h:=?_)
  rintro _ _ ⟨rfl,rfl⟩
  simp only [List.cons_append,List.nil_append]
  refine .move ?_
  refine .extract ?_
  refine .extract ?_
  refine .allocL zNd rfl fun b10=>?_
  refine .stLA (xs:=ndL nd0) (us:=ndL (ldN p V i)) ?_ agg112 hnl rfl (ndL_single _)
  refine .assign (.z (.seq (.sr (.move ?_))))
  refine .nei ?_
  refine .z ?_
  refine .condF rfl rfl ?_
  refine .skip (.next (.seq (.sr (.move ?_))))
  refine .lss ?_
  refine .move ?_
  refine .cast (d:=30) (u:=.bool false) rfl (congrArg Value.bool (by first|simp;done|simp;omega|unfold nI;simp;omega|omega)) ?_
  refine .gT ?_
  refine .move ?_
  refine .gT ?_
  refine .lss ?_
  refine .pickF ?_
  refine .z ?_
  refine .condF rfl (congrArg Value.bool (by first|simp;done|simp;omega|unfold nI;simp;omega|omega)) ?_
  refine .skip (.next (.sr ?_))
  refine .fa ?_ fo112_1
  refine .ldL (xs:=ndL (ldN p V i)) (i:=1) ?_ sc3 hszg
  refine .assign (.z (.seq (.sr (.move (.move ?_)))))
  refine .lss ?_
  refine .move ?_
  refine .cast (d:=39) (u:=.bool true) rfl (congrArg Value.bool (by first|simp;done|simp;omega|unfold nI;simp;omega|omega)) ?_
  refine .gT ?_
  refine .move ?_
  refine .gT ?_
  refine .move ?_
  refine .gT ?_
  refine .move ?_
  refine .gT ?_
  refine .sub ?_
  refine .gT ?_
  refine .lss ?_
  refine .pickT ?_
  refine .z ?_
  refine .condT rfl (congrArg Value.bool (by first|simp;done|simp;omega|unfold nI;simp;omega|omega)) ?_
  refine .region (.move (.move ?_))
  refine .add ?_
  refine .cast (d:=48) (u:=nI en) rfl (congrArg (Value.int .i64) (by omega)) ?_
  refine .assign (.x (.assign ?_))
  refine .emp (A:=rowR 5 1 (.slice none 0 0) (at' - at') (bvs ((f.2.drop at').take (at' - at')))) (by rw [Nat.sub_self];exact rowR.nil _) ?_
  refine .z (.seq (.block ?_))
  refine .loopA (σ:=Nat×Value) (fun y=>[(0,.pointer (some ⟨s,0,none⟩)),(2,nI y.1),(10,.pointer (some ⟨b10,0,none⟩)),(12,nI en),(13,y.2)]) (fun y=>[rowR 5 1 y.2 (y.1 - at') (bvs ((f.2.drop at').take (y.1 - at'))),row b10 112 (ndL (ldN p V i)),pt s (stO c a p),pt a (alO c p),TR c p.n V0 V D op]++F) (fun y=>at'<=y.1/\(y.1<=en ∨ y.1=at')) (fun y=>en - y.1) (at',.slice none 0 0) ⟨Nat.le_refl _,.inr rfl⟩ ?_
  rintro ⟨cur,u⟩ hy
  obtain ⟨hc1,hc2⟩:=hy
  simp only at hc1 hc2
  refine .seq (.sr (.move (.move ?_)))
  refine .lss ?_
  refine .z ?_
  refine .cond rfl (fun hb=>?_) (fun hb=>?_)
  ·have hlt2:cur < en:=by have:=of_decide_eq_true hb;omega
   obtain ⟨mm,hmm⟩:∃ mm,mm=min (512 - cur % 512) (en - cur):=⟨_,rfl⟩
   have hSk:stdS (dat f.2.length) (cur / 512)=true:=stdS_iff.2 (.inl (by unfold dat;omega))
   have hrk:=h.inv.rng i _ _ _ hnd hSk
   have hV200:10<=cur / 512->245<=(ldN p V i).bl.getD 10 0/\(ldN p V i).bl.getD 10 0 < p.n:=fun h10=>by
    have:=h.inv.rng i _ _ 200 hnd (stdS_iff.2 (.inr ⟨rfl,by unfold dat;omega⟩))
    rw [ptr_200] at this
    omega
   have hrs:=read_step (cur:=cur) (mm:=mm) (at':=at') hf.byt (by omega) (by omega) hc1 (h.inv.len _)
   refine .skip (.next (.block (.sr (.move ?_))))
   refine .ldW (xs:=ndL (ldN p V i)) ?_ agg112 hnl
   refine .move ?_
   refine .quo ?_
   refine .cast (d:=56) (u:=nI (cur / 512)) rfl (congrArg (Value.int .i64) (by omega)) ?_
   refine .call (hc:=Tryz.call131) (sp:=inBlock (x:=ldN p V i) (k:=cur / 512) (V0:=V0) (V:=V) (D:=D) (op:=op) hbl (by omega) hV200) (h:=?_)
   rintro _ _ ⟨rfl,rfl⟩
   simp only [List.cons_append,List.nil_append]
   refine .move ?_
   refine .extract ?_
   refine .extract ?_
   refine .assign (.assign (.z (.seq (.sr (.move ?_)))))
   refine .nei ?_
   refine .z ?_
   refine .condF rfl rfl ?_
   refine .skip (.next (.sr (.move ?_)))
   refine .nilCheck ?_
   refine .fa ?_ fo198_0
   refine .ld ?_ sc76
   refine .move ?_
   refine .call (hc:=Tryz.call134) (sp:=tRead (n:=p.n) (V0:=V0) (V:=V) (D:=D) (op:=op) (k:=ptr V (ldN p V i) (cur / 512)) (by omega) (by omega)) (h:=?_)
   rintro _ _ ⟨gb,q,el,rfl,⟨hq1,hq2,hl5⟩,rfl⟩
   refine .move ?_
   refine .extract ?_
   refine .extract ?_
   refine .assign (.assign (.z (.seq (.sr (.move ?_)))))
   refine .nei ?_
   refine .z ?_
   refine .condF rfl rfl ?_
   refine .skip (.next (.sr (.move ?_)))
   refine .rem ?_
   refine .cast (d:=76) (u:=nI (cur % 512)) rfl (congrArg (Value.int .i64) (by omega)) ?_
   refine .assign (.x (.move (.move ?_)))
   refine .add ?_
   refine .move ?_
   refine .sub ?_
   refine .minI ?_
   refine .cast (d:=82) (u:=nI (cur % 512+mm)) rfl (congrArg (Value.int .i64) (by split<;>omega)) ?_
   refine .assign (.x (.move (.move (.move (.move ?_)))))
   refine .slcLH ?_ so59
   refine .cast (d:=87) (u:=.slice (some ⟨gb,cur % 512,none⟩) mm (q - cur % 512)) rfl (by rw [show ((cur % 512:Nat):Int).toNat=cur % 512 from Int.toNat_natCast _,show ((cur % 512+mm:Nat):Int).toNat=cur % 512+mm from Int.toNat_natCast _,if_neg (by omega),Nat.zero_add,Nat.mul_one,show cur % 512+mm - cur % 512=mm from by omega]) ?_
   have hnews:Reads (buf gb el q (bvs (V (ptr V (ldN p V i) (cur / 512))))) (some ⟨gb,cur % 512,none⟩) (bvs (((V (ptr V (ldN p V i) (cur / 512))).drop (cur % 512)).take mm)):=by
    have:=(Reads.buf (g:=gb) (e:=el) (k:=q) (xs:=bvs (V (ptr V (ldN p V i) (cur / 512))))).drop (cur % 512)
    rw [Nat.zero_add] at this
    rw [bvs_take,bvs_drop]
    exact this.take mm
   refine .appendAny (m:=mm) so59 (by decide) (by repeat (first | exact .here | apply Rem.there | apply Repl.there | apply Mem.there)) hnews (by repeat (first | exact .here | apply Rem.there | apply Repl.there | apply Mem.there)) (by rw [bvs_length,List.length_take,List.length_drop,hl5];omega) (bvs_single _) (by omega) (by omega) ⟨_,z5,rfl⟩ (fun vB hvB=>?_)
   refine .assign (.y (.move (.move (.move ?_))))
   refine .sub ?_
   refine .add ?_
   refine .cast (d:=93) (u:=nI (cur+mm)) rfl (congrArg (Value.int .i64) (by omega)) ?_
   refine .assign (.nil (.blockNormal ?_))
   refine .to (A:=rowR 5 1 vB (cur - at'+mm) (bvs ((f.2.drop at').take (cur - at'))++bvs (((V (ptr V (ldN p V i) (cur / 512))).drop (cur % 512)).take mm))) (A':=rowR 5 1 vB (cur+mm - at') (bvs ((f.2.drop at').take (cur+mm - at')))) (fun h hh=>by rw [hrs,bvs_append,show cur+mm - at'=cur - at'+mm from by omega];exact hh) ?_
   exact .back (cur+mm,vB) ⟨by show at'<=cur+mm;omega,by show cur+mm<=en ∨ cur+mm=at';omega⟩ (by show en - (cur+mm) < en - cur;omega)
  ·have hge:¬ cur < en:=by have:=of_decide_eq_false hb;omega
   have hfe:(f.2.drop at').take (cur - at')=(f.2.drop at').take k:=by
    rw [hen2]
    rcases hc2 with h1 | h1
    ·rw [show cur=en from by omega]
    ·rw [show cur - at'=0 from by omega,show en - at'=0 from by omega]
   have hfl:((f.2.drop at').take k).length=cur - at':=by
    rw [<- hfe,List.length_take,List.length_drop]
    omega
   refine .exit (.thenExit (.thenExit (.blockExit (?_))))
   refine .next (.sr (.move (.assign (.assign (.z ?_)))))
   refine .ret (?_)
   refine .to (A:=rowR 5 1 u (cur - at') (bvs ((f.2.drop at').take (cur - at')))) (A':=rowR 5 1 u ((f.2.drop at').take k).length (bvs ((f.2.drop at').take k))) (fun h hh=>by rw [hfl,<-hfe];exact hh) ?_
   exact .ret2 (h1:=.tmp (t:=8) rfl) (h2:=.tmp (t:=9) rfl) ⟨_,⟨u,rfl,rfl⟩,Am.auto⟩
 ·obtain ⟨en,hen,hen1,hen2⟩:∃ en,en=f.2.length/\en<=f.2.length/\(f.2.drop at').take k=(f.2.drop at').take (en - at'):=⟨_,rfl,by omega,by rw [List.take_of_length_le (by rw [List.length_drop];omega),List.take_of_length_le (by rw [List.length_drop];omega)]⟩
  refine .sr (.assign (.assign (.x (.move (.move ?_)))))
  refine .call (hc:=Tryz.call126) (sp:=inLoad (i:=i) (V0:=V0) (V:=V) (D:=D) (op:=op) ho (h.lt hi) (h.digI hi)) (h:=?_)
  rintro _ _ ⟨rfl,rfl⟩
  simp only [List.cons_append,List.nil_append]
  refine .move ?_
  refine .extract ?_
  refine .extract ?_
  refine .allocL zNd rfl fun b10=>?_
  refine .stLA (xs:=ndL nd0) (us:=ndL (ldN p V i)) ?_ agg112 hnl rfl (ndL_single _)
  refine .assign (.z (.seq (.sr (.move ?_))))
  refine .nei ?_
  refine .z ?_
  refine .condF rfl rfl ?_
  refine .skip (.next (.seq (.sr (.move ?_))))
  refine .lss ?_
  refine .move ?_
  refine .cast (d:=30) (u:=.bool false) rfl (congrArg Value.bool (by first|simp;done|simp;omega|unfold nI;simp;omega|omega)) ?_
  refine .gT ?_
  refine .move ?_
  refine .gT ?_
  refine .lss ?_
  refine .pickF ?_
  refine .z ?_
  refine .condF rfl (congrArg Value.bool (by first|simp;done|simp;omega|unfold nI;simp;omega|omega)) ?_
  refine .skip (.next (.sr ?_))
  refine .fa ?_ fo112_1
  refine .ldL (xs:=ndL (ldN p V i)) (i:=1) ?_ sc3 hszg
  refine .cast (d:=35) (u:=nI en) rfl (congrArg nI hen.symm) ?_
  refine .assign (.z (.seq (.sr (.move (.move ?_)))))
  refine .lss ?_
  refine .move ?_
  refine .cast (d:=39) (u:=.bool true) rfl (congrArg Value.bool (by first|simp;done|simp;omega|unfold nI;simp;omega|omega)) ?_
  refine .gT ?_
  refine .move ?_
  refine .gT ?_
  refine .move ?_
  refine .gT ?_
  refine .move ?_
  refine .gT ?_
  refine .sub ?_
  refine .gT ?_
  refine .lss ?_
  refine .pickT ?_
  refine .z ?_
  refine .condF rfl (congrArg Value.bool (by first|simp;done|simp;omega|unfold nI;simp;omega|omega)) ?_
  refine .skip (.next (.sr (.assign ?_)))
  refine .emp (A:=rowR 5 1 (.slice none 0 0) (at' - at') (bvs ((f.2.drop at').take (at' - at')))) (by rw [Nat.sub_self];exact rowR.nil _) ?_
  refine .z (.seq (.block ?_))
  refine .loopA (σ:=Nat×Value) (fun y=>[(0,.pointer (some ⟨s,0,none⟩)),(2,nI y.1),(10,.pointer (some ⟨b10,0,none⟩)),(12,nI en),(13,y.2)]) (fun y=>[rowR 5 1 y.2 (y.1 - at') (bvs ((f.2.drop at').take (y.1 - at'))),row b10 112 (ndL (ldN p V i)),pt s (stO c a p),pt a (alO c p),TR c p.n V0 V D op]++F) (fun y=>at'<=y.1/\(y.1<=en ∨ y.1=at')) (fun y=>en - y.1) (at',.slice none 0 0) ⟨Nat.le_refl _,.inr rfl⟩ ?_
  rintro ⟨cur,u⟩ hy
  obtain ⟨hc1,hc2⟩:=hy
  simp only at hc1 hc2
  refine .seq (.sr (.move (.move ?_)))
  refine .lss ?_
  refine .z ?_
  refine .cond rfl (fun hb=>?_) (fun hb=>?_)
  ·have hlt2:cur < en:=by have:=of_decide_eq_true hb;omega
   obtain ⟨mm,hmm⟩:∃ mm,mm=min (512 - cur % 512) (en - cur):=⟨_,rfl⟩
   have hSk:stdS (dat f.2.length) (cur / 512)=true:=stdS_iff.2 (.inl (by unfold dat;omega))
   have hrk:=h.inv.rng i _ _ _ hnd hSk
   have hV200:10<=cur / 512->245<=(ldN p V i).bl.getD 10 0/\(ldN p V i).bl.getD 10 0 < p.n:=fun h10=>by
    have:=h.inv.rng i _ _ 200 hnd (stdS_iff.2 (.inr ⟨rfl,by unfold dat;omega⟩))
    rw [ptr_200] at this
    omega
   have hrs:=read_step (cur:=cur) (mm:=mm) (at':=at') hf.byt (by omega) (by omega) hc1 (h.inv.len _)
   refine .skip (.next (.block (.sr (.move ?_))))
   refine .ldW (xs:=ndL (ldN p V i)) ?_ agg112 hnl
   refine .move ?_
   refine .quo ?_
   refine .cast (d:=56) (u:=nI (cur / 512)) rfl (congrArg (Value.int .i64) (by omega)) ?_
   refine .call (hc:=Tryz.call131) (sp:=inBlock (x:=ldN p V i) (k:=cur / 512) (V0:=V0) (V:=V) (D:=D) (op:=op) hbl (by omega) hV200) (h:=?_)
   rintro _ _ ⟨rfl,rfl⟩
   simp only [List.cons_append,List.nil_append]
   refine .move ?_
   refine .extract ?_
   refine .extract ?_
   refine .assign (.assign (.z (.seq (.sr (.move ?_)))))
   refine .nei ?_
   refine .z ?_
   refine .condF rfl rfl ?_
   refine .skip (.next (.sr (.move ?_)))
   refine .nilCheck ?_
   refine .fa ?_ fo198_0
   refine .ld ?_ sc76
   refine .move ?_
   refine .call (hc:=Tryz.call134) (sp:=tRead (n:=p.n) (V0:=V0) (V:=V) (D:=D) (op:=op) (k:=ptr V (ldN p V i) (cur / 512)) (by omega) (by omega)) (h:=?_)
   rintro _ _ ⟨gb,q,el,rfl,⟨hq1,hq2,hl5⟩,rfl⟩
   refine .move ?_
   refine .extract ?_
   refine .extract ?_
   refine .assign (.assign (.z (.seq (.sr (.move ?_)))))
   refine .nei ?_
   refine .z ?_
   refine .condF rfl rfl ?_
   refine .skip (.next (.sr (.move ?_)))
   refine .rem ?_
   refine .cast (d:=76) (u:=nI (cur % 512)) rfl (congrArg (Value.int .i64) (by omega)) ?_
   refine .assign (.x (.move (.move ?_)))
   refine .add ?_
   refine .move ?_
   refine .sub ?_
   refine .minI ?_
   refine .cast (d:=82) (u:=nI (cur % 512+mm)) rfl (congrArg (Value.int .i64) (by split<;>omega)) ?_
   refine .assign (.x (.move (.move (.move (.move ?_)))))
   refine .slcLH ?_ so59
   refine .cast (d:=87) (u:=.slice (some ⟨gb,cur % 512,none⟩) mm (q - cur % 512)) rfl (by rw [show ((cur % 512:Nat):Int).toNat=cur % 512 from Int.toNat_natCast _,show ((cur % 512+mm:Nat):Int).toNat=cur % 512+mm from Int.toNat_natCast _,if_neg (by omega),Nat.zero_add,Nat.mul_one,show cur % 512+mm - cur % 512=mm from by omega]) ?_
   have hnews:Reads (buf gb el q (bvs (V (ptr V (ldN p V i) (cur / 512))))) (some ⟨gb,cur % 512,none⟩) (bvs (((V (ptr V (ldN p V i) (cur / 512))).drop (cur % 512)).take mm)):=by
    have:=(Reads.buf (g:=gb) (e:=el) (k:=q) (xs:=bvs (V (ptr V (ldN p V i) (cur / 512))))).drop (cur % 512)
    rw [Nat.zero_add] at this
    rw [bvs_take,bvs_drop]
    exact this.take mm
   refine .appendAny (m:=mm) so59 (by decide) (by repeat (first | exact .here | apply Rem.there | apply Repl.there | apply Mem.there)) hnews (by repeat (first | exact .here | apply Rem.there | apply Repl.there | apply Mem.there)) (by rw [bvs_length,List.length_take,List.length_drop,hl5];omega) (bvs_single _) (by omega) (by omega) ⟨_,z5,rfl⟩ (fun vB hvB=>?_)
   refine .assign (.y (.move (.move (.move ?_))))
   refine .sub ?_
   refine .add ?_
   refine .cast (d:=93) (u:=nI (cur+mm)) rfl (congrArg (Value.int .i64) (by omega)) ?_
   refine .assign (.nil (.blockNormal ?_))
   refine .to (A:=rowR 5 1 vB (cur - at'+mm) (bvs ((f.2.drop at').take (cur - at'))++bvs (((V (ptr V (ldN p V i) (cur / 512))).drop (cur % 512)).take mm))) (A':=rowR 5 1 vB (cur+mm - at') (bvs ((f.2.drop at').take (cur+mm - at')))) (fun h hh=>by rw [hrs,bvs_append,show cur+mm - at'=cur - at'+mm from by omega];exact hh) ?_
   exact .back (cur+mm,vB) ⟨by show at'<=cur+mm;omega,by show cur+mm<=en ∨ cur+mm=at';omega⟩ (by show en - (cur+mm) < en - cur;omega)
  ·have hge:¬ cur < en:=by have:=of_decide_eq_false hb;omega
   have hfe:(f.2.drop at').take (cur - at')=(f.2.drop at').take k:=by
    rw [hen2]
    rcases hc2 with h1 | h1
    ·rw [show cur=en from by omega]
    ·rw [show cur - at'=0 from by omega,show en - at'=0 from by omega]
   have hfl:((f.2.drop at').take k).length=cur - at':=by
    rw [<- hfe,List.length_take,List.length_drop]
    omega
   refine .exit (.thenExit (.thenExit (.blockExit (?_))))
   refine .next (.sr (.move (.assign (.assign (.z ?_)))))
   refine .ret (?_)
   refine .to (A:=rowR 5 1 u (cur - at') (bvs ((f.2.drop at').take (cur - at')))) (A':=rowR 5 1 u ((f.2.drop at').take k).length (bvs ((f.2.drop at').take k))) (fun h hh=>by rw [hfl,<-hfe];exact hh) ?_
   exact .ret2 (h1:=.tmp (t:=8) rfl) (h2:=.tmp (t:=9) rfl) ⟨_,⟨u,rfl,rfl⟩,Am.auto⟩
theorem Spec.later {P:Program} {f:FuncId} {args:Array Value} {X Y Z:HP} {R:List HP->Value->List HP->Prop} (h:Spec P f args [Y,Z] R):Spec P f args [X,Y,Z] fun F v M=>R (X :: F) v M:=fun B F w hs=>h B (X :: F) w (Am.wk Am.auto B w hs)
theorem Spec.last {P:Program} {f:FuncId} {args:Array Value} {X Y Z:HP} {R:List HP->Value->List HP->Prop} (h:Spec P f args [Z] R):Spec P f args [X,Y,Z] fun F v M=>R (X :: Y :: F) v M:=fun B F w hs=>h B (X :: Y :: F) w (Am.wk Am.auto B w hs)
theorem Spec.mid {P:Program} {f:FuncId} {args:Array Value} {X Y Z:HP} {R:List HP->Value->List HP->Prop} (h:Spec P f args [X,Z] R):Spec P f args [X,Y,Z] fun F v M=>R (Y :: F) v M:=fun B F w hs=>h B (Y :: F) w (Am.wk Am.auto B w hs)
structure IP (p:Pl) (F0 F:FM) (W:Nat) (y:(Nat->Bytes)×(Nat->Bytes)×List Nat):Prop where
 r0:Rep p y.1 F0
 r:Rep p y.2.1 F
 dk:Dk p y.2.2
 wt:wt p y.2.2<=W
def inLs (s a c:Nat) (p:Pl) (op:Bool) (y:(Nat->Bytes)×(Nat->Bytes)×List Nat):List HP:=[pt s (stO c a p),pt a (alO c p),TR c p.n y.1 y.2.1 y.2.2 op]
def IN (s a c:Nat) (p:Pl) (F0 F:FM) (W:Nat) (op:Bool):HP:=fun h=>∃ y,IP p F0 F W y/\star (inLs s a c p op y) h
theorem IN.opens (s a c:Nat) (p:Pl) (F0 F:FM) (W:Nat) (op:Bool):Opens (IN s a c p F0 F W op) (IP p F0 F W) (inLs s a c p op):=⟨fun h hh=>hh,fun x hp h hh=>⟨x,hp,hh⟩⟩
attribute [irreducible] IN
def Rw (p:Pl) (W c:Nat):Prop:=p.n<=304 ∨ (p.tb - 245)+W+c<=60
theorem Rw.rm {p:Pl} {W c:Nat} {D:List Nat} (h:Rw p W c) (hw:wt p D<=W):Rm p D c:=by
 unfold Rw at h;unfold Rm
 rcases h with h | h
 ·exact .inl h
 ·exact .inr (by omega)
theorem Spec.re {P:Program} {f:FuncId} {args:Array Value} {L L':List HP} {R:List HP->Value->List HP->Prop} (h:Spec P f args L R) (hk:∀ F,Wk (L'++F) (L++F)):Spec P f args L' R:=fun B F w hs=>h B F w (hk F B w hs)
theorem Rep.imapF {p:Pl} {V:Nat->Bytes} {F:FM} (h:Rep p V F) {j:Nat} (hj:j < p.ino):dig V p.im j=(F j).isSome:=by
 rw [h.inv.imap j hj]
 unfold ndOf
 cases F j<;>rfl
variable {s a c:Nat} {p:Pl} {F0 F:FM} {W:Nat} {op:Bool}
theorem nMake {i k:Nat} (ho:PlOk p) (hk:k=1 ∨ k=2) (hw:Rw p W 1) (hi:i < p.ino) (h0:F i=none) (hb:∀ j < i,F j≠none):Spec Tryz.prog 109 #[.pointer (some ⟨s,0,none⟩),nI k] [IN s a c p F0 F W true] fun G v M=>v=.tuple #[nI i,.int .i64 0]/\M=IN s a c p F0 (updM F i (some (k,[]))) (W+1) true :: G:=by
 refine Spec.opens (IN.opens s a c p F0 F W true) fun y hy=>(inMake (s:=s) (c:=c) (a:=a) (V0:=y.1) (V:=y.2.1) (D:=y.2.2) (k:=k) ho hk hy.dk (hw.rm hy.wt)).post ?_
 rintro G v M (⟨j,hj,hj0,hjb,rfl,rfl⟩ | ⟨hall,_,_⟩)
 ·rw [hy.r.imapF hj] at hj0
  have hji:j=i:=by
   rcases Nat.lt_trichotomy j i with h1 | h1 | h1
   ·have:=hb j h1
    cases hF:F j with
    | none=>exact absurd hF this
    | some f=>rw [hF] at hj0;cases hj0
   ·exact h1
   ·have:=hjb i h1
    rw [hy.r.imapF hi,h0] at this
    cases this
  subst hji
  have hd:=mkD_ok ho hy.dk hj
  have hw1:=hy.wt
  exact ⟨_,⟨rfl,rfl⟩,Wk.shutR (M:=G) (IN.opens s a c p F0 (updM F j (some (k,[]))) (W+1) true) (y.1,_,mkD p y.2.2 j) ⟨hy.r0,hy.r.made ho hj (by rw [hy.r.imapF hj];exact hj0) hk,hd.1,by show wt p (mkD p y.2.2 j)<=W+1;omega⟩⟩
 ·have:=hall i hi
  rw [hy.r.imapF hi,h0] at this
  cases this
theorem nStat {i:Nat} {f:Nat×Bytes} (ho:PlOk p) (hi:F i=some f):Spec Tryz.prog 155 #[.pointer (some ⟨s,0,none⟩),nI i] [IN s a c p F0 F W op] fun G v M=>v=.tuple #[.agg #[nI f.1,nI f.2.length],.int .i64 0]/\M=IN s a c p F0 F W op :: G:=by
 refine Spec.opens (IN.opens s a c p F0 F W op) fun y hy=>(inStat (s:=s) (c:=c) (a:=a) (V0:=y.1) (V:=y.2.1) (D:=y.2.2) (op:=op) (i:=i) ho (hy.r.lt hi) (hy.r.digI hi)).post ?_
 rintro G v M ⟨rfl,rfl⟩
 have hf:=hy.r.ok i f hi
 rw [hf.kd,hf.sz]
 exact ⟨_,⟨rfl,rfl⟩,Wk.shutR (M:=G) (IN.opens s a c p F0 F W op) y hy⟩
theorem nStatNo {i:Int} (ho:PlOk p) (hi:fileAt F i=none):Spec Tryz.prog 155 #[.pointer (some ⟨s,0,none⟩),.int .i64 i] [IN s a c p F0 F W op] fun G v M=>v=.tuple #[.agg #[nI 0,nI 0],.int .i64 4]/\M=IN s a c p F0 F W op :: G:=by
 refine Spec.opens (IN.opens s a c p F0 F W op) fun y hy=>(inStatNo (s:=s) (c:=c) (a:=a) (V0:=y.1) (V:=y.2.1) (D:=y.2.2) (op:=op) (i:=i) ho (hy.r.nope hi)).post ?_
 rintro G v M ⟨rfl,rfl⟩
 exact ⟨_,⟨rfl,rfl⟩,Wk.shutR (M:=G) (IN.opens s a c p F0 F W op) y hy⟩
theorem nRead {i at' k:Nat} {f:Nat×Bytes} (ho:PlOk p) (hi:F i=some f) (hat:at'<=9223372036854775807) (hk:k<=9223372036854775807):Spec Tryz.prog 70 #[.pointer (some ⟨s,0,none⟩),nI i,nI at',nI k] [IN s a c p F0 F W op] fun G v M=>∃ u,v=.tuple #[u,.int .i64 0]/\M=rowR 5 1 u ((f.2.drop at').take k).length (bvs ((f.2.drop at').take k)) :: IN s a c p F0 F W op :: G:=by
 refine Spec.opens (IN.opens s a c p F0 F W op) fun y hy=>(inRead (s:=s) (c:=c) (a:=a) (V0:=y.1) (V:=y.2.1) (D:=y.2.2) (op:=op) hy.r ho hi hat hk).post ?_
 rintro G v M ⟨u,rfl,rfl⟩
 exact ⟨_,⟨u,rfl,rfl⟩,fun B w hs=>Sat.front (.there .here) (Sat.shuts (M:=rowR _ _ _ _ _ :: G) (IN.opens s a c p F0 F W op) hy (Am.wk Am.auto B w hs))⟩
theorem nWrite {i at' m cc:Nat} {f:Nat×Bytes} {R:HP} {A:Option Addr} {bs:Bytes} (ho:PlOk p) (hi:F i=some f) (hw:Rw p W (has (max f.2.length (at'+m)) - has f.2.length+(m+511) / 512+10)) (hR:bs=[] ∨ Reads R A (bvs bs)) (hm:bs.length=m) (hcc:m<=cc) (hcb:cc<=maxLen) (hat:at'<=f.2.length) (hbg:at'+m<=70656) (hfit:tot F p.ino+has (max f.2.length (at'+m))<=p.dc+has f.2.length) :
  Spec Tryz.prog 57 #[.pointer (some ⟨s,0,none⟩),nI i,nI at',.slice A m cc] [IN s a c p F0 F W true,R] fun G v M=>v=okV/\M=IN s a c p F0 (updM F i (some (f.1,wrB f.2 at' bs))) (W+(has (max f.2.length (at'+m)) - has f.2.length)+(m+511) / 512+5) true :: R :: G:=by
 refine Spec.opens (IN.opens s a c p F0 F W true) fun y hy=>((inWrite (s:=s) (c:=c) (a:=a) (V0:=y.1) (V:=y.2.1) (D:=y.2.2) (cc:=cc) hy.r ho hi hy.dk (hw.rm hy.wt) hR hm hcc hcb hat hbg).re (fun G B w hs=>Sat.front (.there (.there (.there .here))) hs)).post ?_
 rintro G v M (⟨hfull,rfl,rfl⟩ | ⟨hle,V1,D1,hrep,⟨hdk,hwt⟩,rfl,rfl⟩)
 ·omega
 ·have hw1:=hy.wt
  exact ⟨_,⟨rfl,rfl⟩,Wk.trans (Am.wk Am.auto) (Wk.shutR (M:=R :: G) (IN.opens s a c p F0 (updM F i (some (f.1,wrB f.2 at' bs))) (W+(has (max f.2.length (at'+m)) - has f.2.length)+(m+511) / 512+5) true) (y.1,V1,D1) ⟨hy.r0,hrep,hdk,by show wt p D1<=_;omega⟩)⟩
theorem nTrunc {i size:Nat} {f:Nat×Bytes} (ho:PlOk p) (hi:F i=some f) (hw:Rw p W (has size - has f.2.length+8)) (hbg:size<=70656) (hfit:tot F p.ino+has size<=p.dc+has f.2.length):Spec Tryz.prog 36 #[.pointer (some ⟨s,0,none⟩),nI i,nI size] [IN s a c p F0 F W true] fun G v M=>v=okV/\M=IN s a c p F0 (updM F i (some (f.1,trB f.2 size))) (W+(has size - has f.2.length)+4) true :: G:=by
 refine Spec.opens (IN.opens s a c p F0 F W true) fun y hy=>(inTrunc (s:=s) (c:=c) (a:=a) (V0:=y.1) (V:=y.2.1) (D:=y.2.2) hy.r ho hi hy.dk (hw.rm hy.wt) hbg).post ?_
 rintro G v M (⟨hfull,rfl,rfl⟩ | ⟨hle,V1,D1,hrep,⟨hdk,hwt⟩,rfl,rfl⟩)
 ·omega
 ·have hw1:=hy.wt
  exact ⟨_,⟨rfl,rfl⟩,Wk.shutR (M:=G) (IN.opens s a c p F0 (updM F i (some (f.1,trB f.2 size))) (W+(has size - has f.2.length)+4) true) (y.1,V1,D1) ⟨hy.r0,hrep,hdk,by show wt p D1<=_;omega⟩⟩
theorem nCommit (ho:PlOk p:=by assumption):Spec Tryz.prog 50 #[.pointer (some ⟨c,0,none⟩)] [IN s a c p F0 F W true] fun G v M=>v=okV/\M=IN s a c p F F 0 false :: G:=by
 refine Spec.opens (IN.opens s a c p F0 F W true) fun y hy=>((tCommit (c:=c) (n:=p.n) (V0:=y.1) (V:=y.2.1) (D:=y.2.2)).last).post ?_
 rintro G v M ⟨rfl,rfl⟩
 exact ⟨_,⟨rfl,rfl⟩,Wk.trans (Am.wk Am.auto) (Wk.shutR (M:=G) (IN.opens s a c p F F 0 false) (cm0 y.2.1,y.2.1,[]) ⟨hy.r.cm ho,hy.r,Dk.nil p,Nat.zero_le _⟩)⟩
theorem nBegin :Spec Tryz.prog 44 #[.pointer (some ⟨c,0,none⟩)] [IN s a c p F0 F W false] fun G v M=>v=okV/\M=IN s a c p F0 F W true :: G:=by
 refine Spec.opens (IN.opens s a c p F0 F W false) fun y hy=>((tBegin (c:=c) (n:=p.n) (V0:=y.1) (V:=y.2.1) (D:=y.2.2)).last).post ?_
 rintro G v M ⟨rfl,rfl⟩
 exact ⟨_,⟨rfl,rfl⟩,Wk.trans (Am.wk Am.auto) (Wk.shutR (M:=G) (IN.opens s a c p F0 F W true) y hy)⟩
def rootM :FM:=fun i=>if i=0 then some (2,[]) else none
def freshW (p:Pl):Nat->Bytes:=svV p (freshV p) 0 ⟨2,0,List.replicate 11 0⟩
theorem fresh_len5 {p:Pl}:Len5 (freshV p):=fun k=>by
 unfold freshV fmtA
 rw [fmtV_at]
 split
 ·exact fmtZ_length _ _ _
 ·rw [fmtV_at]
  split
  ·exact fmtZ_length _ _ _
  ·exact zeros_length
theorem fresh_rep {p:Pl} (h:PlIs p):Rep p (freshW p) rootM:=by
 have ho:=h.ok
 have hlo:=ho.lo
 have htd:=ho.tbda
 have hi1:=ho.i1
 have hi2:=ho.i2
 have htab:=ho.tab
 have hfx:Fits ⟨2,0,List.replicate 11 0⟩:=kFits (by decide)
 have hld:ldN p (freshW p) 0=⟨2,0,List.replicate 11 0⟩:=ldN_svV fresh_len5 hfx
 have hnd:∀ i x S,ndOf p (freshW p) rootM i=some (x,S)->i=0/\x=⟨2,0,List.replicate 11 0⟩/\∀ k,S k=false:=by
  intro i x S hi
  unfold ndOf rootM at hi
  by_cases h0:i=0
  ·subst h0
   rw [if_pos rfl] at hi
   have hi':some (ldN p (freshW p) 0,stdS (dat ([]:Bytes).length))=some (x,S):=hi
   injection hi' with hi'
   injection hi' with e1 e2
   exact ⟨rfl,by rw [<- e1,hld],fun k=>by rw [<- e2];exact stdS_zero k⟩
  ·rw [if_neg h0] at hi;cases hi
 have hV:∀ v,v < p.tb->freshW p v=freshV p v:=fun v hv=>wr_other _ _ (by omega)
 have hbm:∀ k,k < p.dc->dig (freshW p) p.bm k=false:=fun k hk=>by
  have:=ho.mapAt hk
  rw [<- fresh_bm h hk]
  unfold dig
  rw [hV _ (by omega)]
 refine ⟨⟨svV_len fresh_len5 _ _,?_,?_,?_,?_,?_,?_,?_⟩,?_,?_,rfl⟩
 ·intro i x S hi;obtain ⟨_,h2,_⟩:=hnd i x S hi;rw [h2];exact hfx
 ·intro i x S hi;obtain ⟨_,_,h3⟩:=hnd i x S hi;exact ⟨fun k hk=>(by rw [h3 k] at hk;cases hk),fun k hk=>(by rw [h3 k] at hk;cases hk)⟩
 ·intro i x S hi;obtain ⟨h1,_,_⟩:=hnd i x S hi;omega
 ·intro i x S k hi hk;obtain ⟨_,_,h3⟩:=hnd i x S hi;rw [h3 k] at hk;cases hk
 ·intro i x S k j y T l hi hk;obtain ⟨_,_,h3⟩:=hnd i x S hi;rw [h3 k] at hk;cases hk
 ·intro b hb
  rw [hbm b hb]
  refine ⟨fun hh=>(by cases hh),?_⟩
  rintro ⟨i,x,S,k,hi,hk,_⟩
  obtain ⟨_,_,h3⟩:=hnd i x S hi
  rw [h3 k] at hk;cases hk
 ·intro i hi
  have h1:dig (freshW p) p.im i=decide (i=0):=by
   rw [<- fresh_im h hi]
   unfold dig
   rw [hV _ (by omega)]
  rw [h1]
  unfold ndOf rootM
  by_cases h0:i=0
  ·rw [if_pos h0,decide_eq_true h0];rfl
  ·rw [if_neg h0,decide_eq_false h0];rfl
 ·intro i f hi
  unfold rootM at hi
  by_cases h0:i=0
  ·subst h0
   rw [if_pos rfl] at hi
   cases hi
   rw [hld]
   exact ⟨rfl,.inr rfl,rfl,Nat.zero_le _,fun q hq=>by cases hq⟩
  ·rw [if_neg h0] at hi;cases hi
 ·have h1:∀ n,tot rootM n=0:=by
   intro n
   induction n with
   | zero=>rfl
   | succ n ih =>
    unfold tot
    rw [ih]
    unfold rootM
    by_cases h0:n=0
    ·rw [if_pos h0];rfl
    ·rw [if_neg h0];rfl
  rw [h1]
  unfold cnt
  rw [List.filter_eq_nil_iff.2 (fun k hk=>by rw [hbm k (List.mem_range.1 hk)];decide)]
  rfl
theorem tot_root (n:Nat):tot rootM n=0:=by
 induction n with
 | zero=>rfl
 | succ n ih =>
  unfold tot
  rw [ih]
  unfold rootM
  by_cases h0:n=0
  ·rw [if_pos h0];rfl
  ·rw [if_neg h0];rfl
end Go.Proofs.YthpdeihndjhjfaaGreatDoor
end
section
namespace Go.Proofs.YthpdeihndjhjfaaGreatDoor
open Go
theorem un21 :Tryz.prog.underlying 21=some (.int .i32):=by kernel_rfl
def sepIn (xs:Bytes):Bool:=xs.any fun b=>b==47 || b==0
theorem sepIn_no {xs:Bytes} (h:∀ (j:Nat) (hj:j < xs.length),xs[j]≠47/\xs[j]≠0):sepIn xs=false:=by
 unfold sepIn
 rw [List.any_eq_false]
 intro b hb
 obtain ⟨j,hj,rfl⟩:=List.mem_iff_getElem.1 hb
 obtain ⟨h1,h2⟩:=h j hj
 simp [h1,h2]
theorem sepIn_yes {xs:Bytes} {j:Nat} (hj:j < xs.length) (h:xs[j]=47 ∨ xs[j]=0):sepIn xs=true:=by
 unfold sepIn
 rw [List.any_eq_true]
 exact ⟨xs[j],List.getElem_mem hj,by rcases h with h | h<;>simp [h]⟩
theorem idxByteX (xs:Bytes) (c:Int) (w:World):(callFunc 237 #[sv xs,.int .u8 c]).run Tryz.prog w=.ok (.value (.int .i64 (Lib.indexByte xs c.toNat.toUInt8))) w:=by
 rw [run_callFunc_extern Tryz.func237 (by kernel_rfl) (by kernel_rfl) (by kernel_rfl) (e:=Extern.BytealgIndexByte.indexByte) (by kernel_rfl),sv_bstr,Lib.run_indexByteString]
 rfl
theorem sep_low :∀ c:Nat,c < 128->decide ((0:Int)<=Lib.indexByte [47,0] (c:Int).toNat.toUInt8)=decide (c=47 ∨ c=0):=by decide +kernel
theorem rune_sep0 :rune [47,0] 0=(47,1):=rune_low (by decide) (by decide)
theorem rune_sep1 :rune [47,0] 1=(0,1):=rune_low (by decide) (by decide)
def validR (c:Nat):Bool:=decide (c < 55296) || (decide (57343 < c) && decide (c<=1114111))
theorem idxByteL {xs:Bytes} {c:Int}:Spec Tryz.prog 231 #[sv xs,.int .u8 c] [] fun F v M=>v=.int .i64 (Lib.indexByte xs c.toNat.toUInt8)/\M=F:=by
 refine Spec.intro Tryz.func231 rfl rfl fun B F=>?_
 simp only [Tryz.ntmps231,List.cons_append,List.nil_append,env0,Nat.reduceAdd]
 refine .sr (.assign (.x (.move (.move ?_))))
 refine .callX (hc:=idxByteX xs c) (h:=?_)
 refine .assign (.z ?_)
 refine .ret (?_)
 exact .ret1 (h1:=.tmp (t:=4) rfl) ⟨_,⟨rfl,rfl⟩,Am.auto⟩
theorem idxByte {xs:Bytes} {c:Int}:Spec Tryz.prog 235 #[sv xs,.int .u8 c] [] fun F v M=>v=.int .i64 (Lib.indexByte xs c.toNat.toUInt8)/\M=F:=by
 refine Spec.intro Tryz.func235 rfl rfl fun B F=>?_
 simp only [Tryz.ntmps235,List.cons_append,List.nil_append,env0,Nat.reduceAdd]
 refine .sr (.assign (.x (.move (.move ?_))))
 refine .call (hc:=Tryz.call231) (sp:=idxByteL) (h:=?_)
 rintro _ _ ⟨rfl,rfl⟩
 refine .assign (.z ?_)
 refine .ret (?_)
 exact .ret1 (h1:=.tmp (t:=4) rfl) ⟨_,⟨rfl,rfl⟩,Am.auto⟩
theorem validRune {c:Nat}:Spec Tryz.prog 236 #[.int .i32 (c:Int)] [] fun F v M=>v=.bool (validR c)/\M=F:=by
 refine Spec.intro Tryz.func236 rfl rfl fun B F=>?_
 simp only [Tryz.ntmps236,List.cons_append,List.nil_append,env0,Nat.reduceAdd]
 unfold validR
 rcases (show c < 55296 ∨ (¬ c < 55296/\57343 < c/\c<=1114111) ∨ (¬ c < 55296/\¬ 57343 < c) ∨ (¬ c < 55296/\57343 < c/\¬ c<=1114111) from by omega) with hc | hc | hc | hc
 ·refine .sr (.assign (.z (.seq (.block (.sr (.move ?_))))))
  refine .leq ?_
  refine .move ?_
  refine .cast (d:=6) (u:=.bool true) rfl (congrArg Value.bool (by first|simp;done|simp;omega|omega)) ?_
  refine .gT ?_
  refine .move ?_
  refine .gT ?_
  refine .lss ?_
  refine .pickT ?_
  refine .assign (.z ?_)
  refine .condT rfl (congrArg Value.bool (by first|simp;done|simp;omega|omega)) ?_
  refine .sr (.assign (.z ?_))
  refine .ret (.blockRet (.thenRet (?_)))
  exact .ret1 (h1:=.tmp (t:=2) rfl) ⟨_,⟨by simp [hc],rfl⟩,Am.auto⟩
 ·refine .sr (.assign (.z (.seq (.block (.sr (.move ?_))))))
  refine .leq ?_
  refine .move ?_
  refine .cast (d:=6) (u:=.bool true) rfl (congrArg Value.bool (by first|simp;done|simp;omega|omega)) ?_
  refine .gT ?_
  refine .move ?_
  refine .gT ?_
  refine .lss ?_
  refine .pickT ?_
  refine .assign (.z ?_)
  refine .condF rfl (congrArg Value.bool (by first|simp;done|simp;omega|omega)) ?_
  refine .sr (.move ?_)
  refine .lss ?_
  refine .move ?_
  refine .cast (d:=13) (u:=.bool true) rfl (congrArg Value.bool (by first|simp;done|simp;omega|omega)) ?_
  refine .gT ?_
  refine .move ?_
  refine .gT ?_
  refine .leq ?_
  refine .pickT ?_
  refine .assign (.z ?_)
  refine .condT rfl (congrArg Value.bool (by first|simp;done|simp;omega|omega)) ?_
  refine .sr (.assign (.z ?_))
  refine .ret (.blockRet (.thenRet (?_)))
  exact .ret1 (h1:=.tmp (t:=2) rfl) ⟨_,⟨by simp [hc],rfl⟩,Am.auto⟩
 ·refine .sr (.assign (.z (.seq (.block (.sr (.move ?_))))))
  refine .leq ?_
  refine .move ?_
  refine .cast (d:=6) (u:=.bool true) rfl (congrArg Value.bool (by first|simp;done|simp;omega|omega)) ?_
  refine .gT ?_
  refine .move ?_
  refine .gT ?_
  refine .lss ?_
  refine .pickT ?_
  refine .assign (.z ?_)
  refine .condF rfl (congrArg Value.bool (by first|simp;done|simp;omega|omega)) ?_
  refine .sr (.move ?_)
  refine .lss ?_
  refine .move ?_
  refine .cast (d:=13) (u:=.bool false) rfl (congrArg Value.bool (by first|simp;done|simp;omega|omega)) ?_
  refine .gF ?_
  refine .gF ?_
  refine .pickF ?_
  refine .assign (.z ?_)
  refine .condF rfl rfl ?_
  refine .skip (.blockNormal (.next (.sr (.assign (.z ?_)))))
  refine .ret (?_)
  exact .ret1 (h1:=.tmp (t:=2) rfl) ⟨_,⟨by simp [hc],rfl⟩,Am.auto⟩
 ·refine .sr (.assign (.z (.seq (.block (.sr (.move ?_))))))
  refine .leq ?_
  refine .move ?_
  refine .cast (d:=6) (u:=.bool true) rfl (congrArg Value.bool (by first|simp;done|simp;omega|omega)) ?_
  refine .gT ?_
  refine .move ?_
  refine .gT ?_
  refine .lss ?_
  refine .pickT ?_
  refine .assign (.z ?_)
  refine .condF rfl (congrArg Value.bool (by first|simp;done|simp;omega|omega)) ?_
  refine .sr (.move ?_)
  refine .lss ?_
  refine .move ?_
  refine .cast (d:=13) (u:=.bool true) rfl (congrArg Value.bool (by first|simp;done|simp;omega|omega)) ?_
  refine .gT ?_
  refine .move ?_
  refine .gT ?_
  refine .leq ?_
  refine .pickT ?_
  refine .assign (.z ?_)
  refine .condF rfl (congrArg Value.bool (by first|simp;done|simp;omega|omega)) ?_
  refine .skip (.blockNormal (.next (.sr (.assign (.z ?_)))))
  refine .ret (?_)
  exact .ret1 (h1:=.tmp (t:=2) rfl) ⟨_,⟨by simp [hc],rfl⟩,Am.auto⟩
theorem idxRune {c:Nat}:Spec Tryz.prog 226 #[sv [47,0],.int .i32 (c:Int)] [] fun F v M=>∃ r:Int,v=.int .i64 r/\decide (0<=r)=decide (c=47 ∨ c=0)/\M=F:=by
 refine Spec.intro Tryz.func226 rfl rfl fun B F=>?_
 simp only [Tryz.ntmps226,List.cons_append,List.nil_append,env0,Nat.reduceAdd]
 rcases (show c < 128 ∨ c=65533 ∨ (¬ c < 128/\c≠65533) from by omega) with hc | hc | hc
 ·refine .sr (.assign (.z (.block (.sr (.move ?_)))))
  refine .leq ?_
  refine .move ?_
  refine .cast (d:=163) (u:=.bool true) rfl (congrArg Value.bool (by first|simp;done|simp;omega|omega)) ?_
  refine .gT ?_
  refine .move ?_
  refine .gT ?_
  refine .lss ?_
  refine .pickT ?_
  refine .assign (.z ?_)
  refine .condT rfl (congrArg Value.bool (by first|simp;done|simp;omega|omega)) ?_
  refine .sr (.move (.move ?_))
  refine .cvt ?_ un21 un5
  refine .cast (d:=169) (u:=.int .u8 (c:Int)) rfl (congrArg (Value.int .u8) (IntWalk.u8_in _ (by omega))) ?_
  refine .call (hc:=Tryz.call235) (sp:=idxByte (xs:=[47,0]) (c:=(c:Int))) (h:=?_)
  rintro _ _ ⟨rfl,rfl⟩
  refine .assign (.z ?_)
  refine .ret (.blockRet (?_))
  exact .ret1 (h1:=.tmp (t:=4) rfl) ⟨_,⟨_,rfl,sep_low c hc,rfl⟩,Am.auto⟩
 ·subst hc
  refine .sr (.assign (.z (.block (.sr (.move ?_)))))
  refine .leq ?_
  refine .move ?_
  refine .cast (d:=163) (u:=.bool true) rfl (congrArg Value.bool (by first|simp;done|simp;omega|omega)) ?_
  refine .gT ?_
  refine .move ?_
  refine .gT ?_
  refine .lss ?_
  refine .pickT ?_
  refine .assign (.z ?_)
  refine .condF rfl (congrArg Value.bool (by first|simp;done|simp;omega|omega)) ?_
  refine .sr (.move ?_)
  refine .eqi ?_
  refine .assign (.z ?_)
  refine .condT rfl rfl ?_
  refine .seq (.sr (.move ?_))
  refine .rangeT [47,0] st9 (fun it=>?_)
  refine .z (.block ?_)
  refine .loopN 3 (RC.succ ?_)
  refine .sr ?_
  refine .nextT (k:=0) [47,0] (fun hk=>absurd (by decide) hk) (fun _=>?_)
  rw [rune_sep0]
  refine .extract ?_
  refine .z (.seq ?_)
  refine .condT rfl rfl ?_
  refine .skip (.next (.block (.sr ?_)))
  refine .extract ?_
  refine .extract ?_
  refine .assign (.assign (.x (.move ?_)))
  refine .eqi ?_
  refine .z ?_
  refine .condF rfl rfl ?_
  refine .skip (.blockNormal ?_)
  refine .again (RC.succ ?_)
  refine .sr ?_
  refine .nextT (k:=1) [47,0] (fun hk=>absurd (by decide) hk) (fun _=>?_)
  rw [rune_sep1]
  refine .extract ?_
  refine .z (.seq ?_)
  refine .condT rfl rfl ?_
  refine .skip (.next (.block (.sr ?_)))
  refine .extract ?_
  refine .extract ?_
  refine .assign (.assign (.x (.move ?_)))
  refine .eqi ?_
  refine .z ?_
  refine .condF rfl rfl ?_
  refine .skip (.blockNormal ?_)
  refine .again (RC.succ ?_)
  refine .sr ?_
  refine .nextT (k:=2) [47,0] (fun _=>?_) (fun hk=>absurd hk (by decide))
  refine .extract ?_
  refine .z (.seq ?_)
  refine .condF rfl rfl ?_
  refine .exit (.thenExit (.thenExit (.blockExit (?_))))
  refine .next (.sr (.assign (.z ?_)))
  refine .ret (.blockRet (?_))
  exact .ret1 (h1:=.tmp (t:=4) rfl) ⟨_,⟨_,rfl,by decide,rfl⟩,Am.auto⟩
 ·obtain ⟨l,hl,hl2,hl4,hlast⟩:=encode_high (c:=c) (by omega)
  refine .sr (.assign (.z (.block (.sr (.move ?_)))))
  refine .leq ?_
  refine .move ?_
  refine .cast (d:=163) (u:=.bool true) rfl (congrArg Value.bool (by first|simp;done|simp;omega|omega)) ?_
  refine .gT ?_
  refine .move ?_
  refine .gT ?_
  refine .lss ?_
  refine .pickT ?_
  refine .assign (.z ?_)
  refine .condF rfl (congrArg Value.bool (by first|simp;done|simp;omega|omega)) ?_
  refine .sr (.move ?_)
  refine .eqi ?_
  refine .assign (.z ?_)
  refine .condF rfl (congrArg Value.bool (by first|simp;done|simp;omega|omega)) ?_
  refine .sr (.move ?_)
  refine .call (hc:=Tryz.call236) (sp:=validRune (c:=c)) (h:=?_)
  rintro _ _ ⟨rfl,rfl⟩
  refine .not ?_
  refine .assign (.z ?_)
  cases hv:validR c
  ·refine .condT rfl rfl ?_
   refine .sr (.assign (.z ?_))
   refine .ret (.blockRet (?_))
   exact .ret1 (h1:=.tmp (t:=4) rfl) ⟨_,⟨_,rfl,by rw [decide_eq_false (by decide),decide_eq_false (by omega)],rfl⟩,Am.auto⟩
  ·refine .condF rfl rfl ?_
   refine .scope (.sr (.move ?_))
   refine .pure ?_ rfl (Qt.cvtRT un21 st9)
   rw [hl]
   refine .assign (.x (.move ?_))
   refine .lenT _ ?_ st9
   refine .sub ?_
   refine .assign (.x (.move (.assign (.x (.assign (.z (.seq (.block ?_))))))))
   rcases (show l.length=2 ∨ 3<=l.length from by omega) with hl3 | hl3
   ·obtain ⟨x,hx⟩:∃ x,l[1]?=some x:=⟨_,List.getElem?_eq_getElem (by omega)⟩
    have hx8:128<=x.toNat:=hlast x (by rw [List.getLast?_eq_getElem?,hl3];exact hx)
    rw [hl3]
    refine .loopN 2 (RC.succ ?_)
    refine .seq (.sr (.move (.move ?_)))
    refine .lenT _ ?_ st9
    refine .lss ?_
    refine .z ?_
    refine .condT rfl rfl ?_
    refine .skip (.next (.block (.scope (.seq (.seq ?_)))))
    refine .dr ([]) [] 7 mixed .autoS ?_
    refine .tk 0 rfl .move ?_
    refine .tk 1 rfl .move ?_
    refine .tk 2 rfl (Qt.ixT (p:=1) (v:=0) [47,0] st9 rfl) ?_
    refine .tk 3 rfl .move ?_
    refine .tk 4 rfl .move ?_
    refine .tk 5 rfl (Qt.ixT (p:=1) (v:=x) l st9 hx) ?_
    refine .tk 6 rfl ((Qt.nei).eq (v':=.bool true) (congrArg Value.bool (show (!decide ((0:Int)=(x.toNat:Int)))=true from by rw [decide_eq_false (by omega)];rfl))) ?_
    refine .fin ?_
    refine .next ?_
    refine .condT rfl rfl ?_
    refine .seq ?_
    refine .dr ([]) [] 9 mixed .autoS ?_
    refine .tk 0 rfl .move ?_
    refine .tk 1 rfl .move ?_
    refine .tk 2 rfl .add ?_
    refine .tk 3 rfl (Qt.subT (p:=1+1) [47,0] st9 (hp:=⟨by decide,by decide⟩)) ?_
    refine .tk 4 rfl .move ?_
    refine .tk 5 rfl .move ?_
    refine .tk 6 rfl (Qt.ixT (p:=1) (v:=x) l st9 hx) ?_
    refine .on 7 rfl fun hnp=>?_
    refine .call (hc:=Tryz.call235) (sp:=idxByte (xs:=[]) (c:=(x.toNat:Int))) (h:=?_)
    rintro _ _ ⟨rfl,rfl⟩
    refine .nil (.wa hnp ?_)
    refine .tk 8 rfl .assign ?_
    refine .fin ?_
    refine .next (.seq (.sr (.move ?_)))
    refine .lss ?_
    refine .z ?_
    refine .condT rfl rfl ?_
    refine .sr (.assign (.z ?_))
    refine .ret (.thenRet (.thenRet (.scopeRet (.blockRet (.thenRet (.blockRet (.thenRet (.scopeRet (.blockRet (?_))))))))))
    exact .ret1 (h1:=.tmp (t:=4) rfl) ⟨_,⟨_,rfl,by rw [decide_eq_false (by decide),decide_eq_false (by omega)],rfl⟩,Am.auto⟩
   ·refine .loopN 1 (RC.succ ?_)
    refine .seq (.sr (.move (.move ?_)))
    refine .lenT _ ?_ st9
    refine .lss ?_
    refine .z ?_
    refine .condF rfl (congrArg Value.bool (by first|simp;done|simp;omega|omega)) ?_
    refine .exit (.thenExit (.thenExit (.blockExit (?_))))
    refine .next (.seq (.sr (.assign (.z ?_))))
    refine .ret (.thenRet (.scopeRet (.blockRet (?_))))
    exact .ret1 (h1:=.tmp (t:=4) rfl) ⟨_,⟨_,rfl,by rw [decide_eq_false (by decide),decide_eq_false (by omega)],rfl⟩,Am.auto⟩
theorem agg290 :aggOk Tryz.prog 290 256=true:=by kernel_rfl
theorem z290 :zeroOf Tryz.prog 290=some (Array.replicate 256 (.bool false)):=by kernel_rfl
theorem ar290 :arrOk Tryz.prog 290 4 256 1=true:=by kernel_rfl
def sepA :List Value:=((List.replicate 256 (Value.bool false)).set 47 (.bool true)).set 0 (.bool true)
theorem sepA_length :sepA.length=256:=by unfold sepA;rw [List.length_set,List.length_set,List.length_replicate]
theorem sepA_single :∀ v∈sepA,Value.single v=true:=by
 intro v hv
 unfold sepA at hv
 rcases List.mem_or_eq_of_mem_set hv with hv | rfl
 ·rcases List.mem_or_eq_of_mem_set hv with hv | rfl
  ·rw [List.eq_of_mem_replicate hv];rfl
  ·rfl
 ·rfl
theorem bool_arr :Array.replicate 256 (Value.bool false)=(List.replicate 256 (Value.bool false)).toArray:=(List.toArray_replicate ..).symm
theorem sepA_get (x:UInt8):sepA[x.toNat]?=some (.bool (x==47 || x==0)):=by
 have hx:x.toNat < 256:=x.toNat_lt
 unfold sepA
 by_cases h0:x=0
 ·subst h0
  exact List.getElem?_set_self (by rw [List.length_set,List.length_replicate];decide)
 ·have h0':0≠x.toNat:=fun h=>h0 (UInt8.toNat_inj.1 h.symm)
  rw [List.getElem?_set_ne h0']
  by_cases h47:x=47
  ·subst h47
   exact List.getElem?_set_self (by rw [List.length_replicate];decide)
  ·have h47':47≠x.toNat:=fun h=>h47 (UInt8.toNat_inj.1 h.symm)
   rw [List.getElem?_set_ne h47',List.getElem?_replicate,if_pos hx]
   simp [h0,h47]
def nameOk (xs:Bytes):Bool:=!decide (xs=[]) && (decide (xs.length<=50) && (!sepIn xs && (!decide (xs=[46]) && !decide (xs=[46,46]))))
theorem mkSet :Spec Tryz.prog 228 #[sv [47,0]] [] fun F v M=>v=.tuple #[.agg sepA.toArray,.bool true]/\M=F:=by
 refine Spec.intro Tryz.func228 rfl rfl fun B F=>?_
 simp only [Tryz.ntmps228,List.cons_append,List.nil_append,env0,Nat.reduceAdd]
 refine .sr ?_
 refine .allocL (us:=List.replicate 256 (Value.bool false)) z290 bool_arr fun b2=>?_
 refine .assign (.z (.seq (.sr (.assign (.z (.block ?_))))))
 refine .loopN 3 (RC.succ ?_)
 refine .seq (.sr (.move (.move ?_)))
 refine .lenT _ ?_ st9
 refine .lss ?_
 refine .z ?_
 refine .condT rfl rfl ?_
 refine .skip (.next (.seq (.block (.sr (.move (.move ?_))))))
 refine .ixT (p:=0) (v:=47) [47,0] ?_ st9 rfl
 refine .cast (d:=14) (u:=.int .u8 47) rfl rfl ?_
 refine .assign (.z (.seq (.sr (.move ?_))))
 refine .geq ?_
 refine .z ?_
 refine .condF rfl rfl ?_
 refine .skip (.next (.region (.move ?_)))
 refine .idxA ?_ ar290
 refine .stL (xs:=(List.replicate 256 (Value.bool false))) (i:=47) ?_ sc4 (by first | (rw [List.length_set,List.length_replicate];decide) | (rw [List.length_replicate];decide))
 refine .nil (.blockNormal (.next (.region (.move ?_))))
 refine .add ?_
 refine .assign (.nil ?_)
 refine .again (RC.succ ?_)
 refine .seq (.sr (.move (.move ?_)))
 refine .lenT _ ?_ st9
 refine .lss ?_
 refine .z ?_
 refine .condT rfl rfl ?_
 refine .skip (.next (.seq (.block (.sr (.move (.move ?_))))))
 refine .ixT (p:=1) (v:=0) [47,0] ?_ st9 rfl
 refine .cast (d:=14) (u:=.int .u8 0) rfl rfl ?_
 refine .assign (.z (.seq (.sr (.move ?_))))
 refine .geq ?_
 refine .z ?_
 refine .condF rfl rfl ?_
 refine .skip (.next (.region (.move ?_)))
 refine .idxA ?_ ar290
 refine .stL (xs:=((List.replicate 256 (Value.bool false)).set 47 (.bool true))) (i:=0) ?_ sc4 (by first | (rw [List.length_set,List.length_replicate];decide) | (rw [List.length_replicate];decide))
 refine .nil (.blockNormal (.next (.region (.move ?_))))
 refine .add ?_
 refine .assign (.nil ?_)
 refine .again (RC.succ ?_)
 refine .seq (.sr (.move (.move ?_)))
 refine .lenT _ ?_ st9
 refine .lss ?_
 refine .z ?_
 refine .condF rfl rfl ?_
 refine .exit (.thenExit (.thenExit (.blockExit (?_))))
 refine .next (.sr ?_)
 refine .ldW (xs:=sepA) ?_ agg290 sepA_length
 refine .stLA (xs:=sepA) (us:=sepA) ?_ agg290 sepA_length sepA_length sepA_single
 refine .assign (.z ?_)
 refine .ret (?_)
 exact .ret2 (h1:=RV.aggL rfl agg290 (by repeat (first | exact .here | apply Rem.there | apply Repl.there | apply Mem.there)) sepA_length) (h2:=.tmp rfl) ⟨_,⟨rfl,rfl⟩,Am.auto⟩
theorem setHas {b:Nat} {x:UInt8}:Spec Tryz.prog 229 #[.pointer (some ⟨b,0,none⟩),.int .u8 (x.toNat:Int)] [row b 290 sepA] fun F v M=>v=.bool (x==47 || x==0)/\M=row b 290 sepA :: F:=by
 refine Spec.intro Tryz.func229 rfl rfl fun B F=>?_
 simp only [Tryz.ntmps229,List.cons_append,List.nil_append,env0,Nat.reduceAdd]
 have hx:x.toNat < 256:=x.toNat_lt
 refine .sr (.assign (.x (.move (.move ?_))))
 refine .nilCheck ?_
 refine .idxA ?_ ar290
 refine .ldL (xs:=sepA) (i:=0+((x.toNat:Nat):Int).toNat * 1) ?_ sc4 (by rw [Nat.zero_add,Nat.mul_one,Int.toNat_natCast];exact sepA_get x)
 refine .assign (.z ?_)
 refine .ret (?_)
 exact .ret1 (h1:=.tmp (t:=4) rfl) ⟨_,⟨rfl,rfl⟩,Am.auto⟩
theorem useSet {k:Int}:Spec Tryz.prog 227 #[.int .i64 k] [] fun F v M=>v=.bool (decide (8 < k))/\M=F:=by
 refine Spec.intro Tryz.func227 rfl rfl fun B F=>?_
 simp only [Tryz.ntmps227,List.cons_append,List.nil_append,env0,Nat.reduceAdd]
 refine .sr (.assign (.x (.move ?_)))
 refine .gtr ?_
 refine .assign (.z ?_)
 refine .ret (?_)
 exact .ret1 (h1:=.tmp (t:=2) rfl) ⟨_,⟨rfl,rfl⟩,Am.auto⟩
theorem idxAny {xs:Bytes} (hl:xs.length<=65536):Spec Tryz.prog 220 #[sv xs,sv [47,0]] [] fun F v M=>∃ r:Int,v=.int .i64 r/\decide (0<=r)=sepIn xs/\M=F:=by
 refine Spec.intro Tryz.func220 rfl rfl fun B F=>?_
 simp only [Tryz.ntmps220,List.cons_append,List.nil_append,env0,Nat.reduceAdd]
 refine .sr (.assign (.z (.seq (.sr (.move ?_)))))
 refine .eqS _ _ ?_
 refine .z ?_
 refine .condF rfl rfl ?_
 refine .skip (.next (.seq (.sr (.move ?_))))
 refine .lenT _ ?_ st9
 refine .eqi ?_
 refine .z ?_
 refine .condF rfl rfl ?_
 refine .skip (.next (.seq (.sr (.move ?_))))
 refine .lenT _ ?_ st9
 refine .call (hc:=Tryz.call227) (sp:=useSet (k:=(xs.length:Int))) (h:=?_)
 rintro _ _ ⟨rfl,hM⟩
 obtain rfl:=hM.symm
 refine .z ?_
 refine .cond rfl (fun h8=>?_) (fun h8=>?_)
 ·refine .sr (.move ?_)
  refine .call (hc:=Tryz.call228) (sp:=mkSet) (h:=?_)
  rintro _ _ ⟨rfl,hM2⟩
  obtain rfl:=hM2.symm
  refine .move ?_
  refine .extract ?_
  refine .extract ?_
  refine .allocL (us:=List.replicate 256 (Value.bool false)) z290 bool_arr fun b6=>?_
  refine .stLA (xs:=List.replicate 256 (Value.bool false)) (us:=sepA) ?_ agg290 sepA_length List.length_replicate sepA_single
  refine .assign (.x (.move (.z ?_)))
  refine .condT rfl rfl ?_
  refine .seq (.sr (.assign (.z (.block ?_))))
  refine .loopA (σ:=Nat) (fun i=>[(0,sv xs),(6,.pointer (some ⟨b6,0,none⟩)),(8,.int .i64 (i:Int))]) (fun i=>row b6 290 sepA :: F) (fun i=>i<=xs.length/\∀ (j:Nat),j < i->∀ (hj:j < xs.length),xs[j]≠47/\xs[j]≠0) (fun i=>xs.length - i) 0 ⟨Nat.zero_le _,fun j hj=>by omega⟩ ?_
  rintro i hi
  refine .seq (.sr (.move (.move ?_)))
  refine .lenT _ ?_ st9
  refine .lss ?_
  refine .z ?_
  refine .cond rfl (fun hb=>?_) (fun hb=>?_)
  ·have hlt:i < xs.length:=by have h:(i:Int) < (xs.length:Int):=of_decide_eq_true hb;omega
   have hx:xs[((i:Nat):Int).toNat]?=some xs[i]:=by rw [Int.toNat_natCast];exact List.getElem?_eq_getElem hlt
   refine .skip (.next (.seq (.block (.sr (.move (.move ?_))))))
   refine .ixT (p:=(i:Int)) (v:=xs[i]) xs ?_ st9 hx
   refine .call (hc:=Tryz.call229) (sp:=setHas (b:=b6) (x:=xs[i])) (h:=?_)
   rintro _ _ ⟨rfl,rfl⟩
   refine .z ?_
   refine .cond rfl (fun hq=>?_) (fun hq=>?_)
   ·refine .sr (.move (.assign (.z ?_)))
    refine .ret (.blockRet (.thenRet (.thenRet (.blockRet (.thenRet (.thenRet (?_)))))))
    exact .ret1 (h1:=.tmp (t:=4) rfl) ⟨_,⟨_,rfl,by rw [decide_eq_true (by omega),sepIn_yes hlt (by simpa using hq)],rfl⟩,Am.auto⟩
   ·refine .skip (.blockNormal (.next (.region (.move ?_))))
    refine .add ?_
    refine .assign (.nil ?_)
    refine .cast (d:=8) (u:=.int .i64 ((i+1:Nat):Int)) rfl (congrArg (Value.int .i64) (by omega)) ?_
    exact .back (i+1) ⟨by omega,fun j hj hl=>by by_cases hji:j=i;(subst hji;simpa using hq);exact hi.2 j (by omega) hl⟩ (by omega)
  ·have hge:¬ i < xs.length:=by have h:¬ (i:Int) < (xs.length:Int):=of_decide_eq_false hb;omega
   refine .exit (.thenExit (.thenExit (.blockExit (?_))))
   refine .next (.sr (.assign (.z ?_)))
   refine .ret (.thenRet (?_))
   exact .ret1 (h1:=.tmp (t:=4) rfl) ⟨_,⟨_,rfl,by rw [decide_eq_false (by decide),sepIn_no (fun j hj=>hi.2 j (by omega) hj)],rfl⟩,Am.auto⟩
 ·refine .skip (.next (.seq (.sr (.move ?_))))
  refine .rangeT xs st9 (fun it=>?_)
  refine .z (.block ?_)
  refine .loopA (σ:=Nat) (fun k=>[(0,sv xs),(1,sv [47,0]),(45,.pointer (some ⟨it,0,none⟩))]) (fun k=>strIt it xs k :: F) (fun k=>∀ (j:Nat),j < k->∀ (hj:j < xs.length),xs[j]≠47/\xs[j]≠0) (fun k=>xs.length - k) 0 (fun j hj=>by omega) ?_
  rintro k hi
  refine .sr ?_
  refine .nextT (k:=k) xs (fun hk=>?_) (fun hk=>?_)
  ·refine .extract ?_
   refine .z (.seq ?_)
   refine .condF rfl rfl ?_
   refine .exit (.thenExit (.thenExit (.blockExit (?_))))
   refine .next (.sr (.assign (.z ?_)))
   refine .ret (?_)
   exact .ret1 (h1:=.tmp (t:=4) rfl) ⟨_,⟨_,rfl,by rw [decide_eq_false (by decide),sepIn_no (fun j hj=>hi j (by omega) hj)],rfl⟩,Am.auto⟩
  ·have hpos:=rune_pos hk
   have hle:=rune_le xs k
   obtain ⟨c,hc⟩:∃ c,(rune xs k).1=c:=⟨_,rfl⟩
   obtain ⟨d,hd⟩:∃ d,(rune xs k).2=d:=⟨_,rfl⟩
   rw [hc,hd]
   rw [hd] at hpos
   have hyes:c=47 ∨ c=0->sepIn xs=true:=by
    intro h
    by_cases hb:xs[k].toNat < 128
    ·rw [rune_low hk hb] at hc
     refine sepIn_yes hk ?_
     have hc:xs[k].toNat=c:=hc
     rcases h with h | h
     ·exact .inl (UInt8.toNat_inj.1 (by rw [hc,h];rfl))
     ·exact .inr (UInt8.toNat_inj.1 (by rw [hc,h];rfl))
    ·have:=(rune_high hk (by omega)).1
     omega
   have hno:¬ (c=47 ∨ c=0)->∀ (j:Nat),j < k+d->∀ (hj:j < xs.length),xs[j]≠47/\xs[j]≠0:=by
    intro h j hj hjl
    by_cases hjk:j < k
    ·exact hi j hjk hjl
    by_cases hb:xs[k].toNat < 128
    ·rw [rune_low hk hb] at hc hd
     have hc:xs[k].toNat=c:=hc
     have hd:1=d:=hd
     obtain rfl:j=k:=by omega
     refine ⟨fun h2=>h (.inl ?_),fun h2=>h (.inr ?_)⟩
     ·rw [<- hc,h2];rfl
     ·rw [<- hc,h2];rfl
    ·have h3:=(rune_high hk (by omega)).2.2 j (by omega) (by rw [hd];exact hj) hjl
     refine ⟨fun h2=>?_,fun h2=>?_⟩
     ·rw [h2] at h3;exact absurd h3 (by decide)
     ·rw [h2] at h3;exact absurd h3 (by decide)
   refine .extract ?_
   refine .z (.seq ?_)
   refine .condT rfl rfl ?_
   refine .skip (.next (.block (.sr ?_)))
   refine .extract ?_
   refine .extract ?_
   refine .assign (.assign (.x (.move (.move ?_))))
   refine .call (hc:=Tryz.call226) (sp:=idxRune (c:=c)) (h:=?_)
   rintro _ _ ⟨r,rfl,hr,rfl⟩
   by_cases hq:c=47 ∨ c=0
   ·have hr0:0<=r:=of_decide_eq_true (by rw [hr];exact decide_eq_true hq)
    refine .geq ?_
    refine .z ?_
    refine .condT rfl (congrArg Value.bool (by first|simp;done|simp;omega|omega)) ?_
    refine .sr (.move (.assign (.z ?_)))
    refine .ret (.blockRet (.thenRet (.blockRet (.thenRet (?_)))))
    exact .ret1 (h1:=.tmp (t:=4) rfl) ⟨_,⟨_,rfl,by rw [decide_eq_true (by omega),hyes hq],rfl⟩,Am.auto⟩
   ·have hr0:¬ 0<=r:=of_decide_eq_false (by rw [hr];exact decide_eq_false hq)
    refine .geq ?_
    refine .z ?_
    refine .condF rfl (congrArg Value.bool (by first|simp;done|simp;omega|omega)) ?_
    refine .skip (.blockNormal ?_)
    exact .back (k+d) (hno hq) (by show xs.length - (k+d) < xs.length - k;omega)
theorem hasAny {xs:Bytes} (hl:xs.length<=65536):Spec Tryz.prog 207 #[sv xs,sv [47,0]] [] fun F v M=>v=.bool (sepIn xs)/\M=F:=by
 refine Spec.intro Tryz.func207 rfl rfl fun B F=>?_
 simp only [Tryz.ntmps207,List.cons_append,List.nil_append,env0,Nat.reduceAdd]
 refine .sr (.assign (.x (.move (.move ?_))))
 refine .call (hc:=Tryz.call220) (sp:=idxAny hl) (h:=?_)
 rintro _ _ ⟨r,rfl,hr,rfl⟩
 refine .geq ?_
 refine .assign (.z ?_)
 refine .ret (?_)
 exact .ret1 (h1:=.tmp (t:=4) rfl) ⟨_,⟨congrArg Value.bool hr,rfl⟩,Am.auto⟩
theorem dName {xs:Bytes}:Spec Tryz.prog 181 #[sv xs] [] fun F v M=>v=.bool (nameOk xs)/\M=F:=by
 refine Spec.intro Tryz.func181 rfl rfl fun B F=>?_
 simp only [Tryz.ntmps181,List.cons_append,List.nil_append,env0,Nat.reduceAdd]
 unfold nameOk
 by_cases h1:xs=[]
 ·refine .sr (.assign (.x (.move ?_)))
  refine .neS _ _ ?_
  refine .cast (d:=4) (u:=.bool false) rfl (congrArg Value.bool (by simp [h1])) ?_
  refine .move ?_
  refine .gF ?_
  refine .gF ?_
  refine .gF ?_
  refine .pickF ?_
  refine .move ?_
  refine .gF ?_
  refine .gF ?_
  refine .gF ?_
  refine .pickF ?_
  refine .move ?_
  refine .gF ?_
  refine .gF ?_
  refine .pickF ?_
  refine .move ?_
  refine .gF ?_
  refine .gF ?_
  refine .pickF ?_
  refine .assign (.z ?_)
  refine .ret (?_)
  exact .ret1 (h1:=.tmp (t:=2) rfl) ⟨_,⟨by simp [h1],rfl⟩,Am.auto⟩
 ·by_cases h2:xs.length<=50
  ·cases h3:sepIn xs
   ·by_cases h4:xs=[46]
    ·refine .sr (.assign (.x (.move ?_)))
     refine .neS _ _ ?_
     refine .cast (d:=4) (u:=.bool true) rfl (congrArg Value.bool (by simp [h1])) ?_
     refine .move ?_
     refine .gT ?_
     refine .move ?_
     refine .gT ?_
     refine .lenT _ ?_ st9
     refine .gT ?_
     refine .leq ?_
     refine .pickT ?_
     refine .move ?_
     refine .cast (d:=10) (u:=.bool true) rfl (congrArg Value.bool (by first|simp;done|simp;omega|omega)) ?_
     refine .gT ?_
     refine .move ?_
     refine .gT ?_
     refine .call (hc:=Tryz.call207) (sp:=hasAny (xs:=xs) (by omega)) (h:=?_)
     rintro _ _ ⟨rfl,rfl⟩
     refine .gT ?_
     refine .not ?_
     refine .cast (d:=13) (u:=.bool true) rfl (congrArg Value.bool (by rw [h3];rfl)) ?_
     refine .pickT ?_
     refine .move ?_
     refine .gT ?_
     refine .move ?_
     refine .gT ?_
     refine .neS _ _ ?_
     refine .cast (d:=17) (u:=.bool false) rfl (congrArg Value.bool (by simp [h4])) ?_
     refine .pickT ?_
     refine .move ?_
     refine .gF ?_
     refine .gF ?_
     refine .pickF ?_
     refine .assign (.z ?_)
     refine .ret (?_)
     exact .ret1 (h1:=.tmp (t:=2) rfl) ⟨_,⟨by subst h4;rfl,rfl⟩,Am.auto⟩
    ·refine .sr (.assign (.x (.move ?_)))
     refine .neS _ _ ?_
     refine .cast (d:=4) (u:=.bool true) rfl (congrArg Value.bool (by simp [h1])) ?_
     refine .move ?_
     refine .gT ?_
     refine .move ?_
     refine .gT ?_
     refine .lenT _ ?_ st9
     refine .gT ?_
     refine .leq ?_
     refine .pickT ?_
     refine .move ?_
     refine .cast (d:=10) (u:=.bool true) rfl (congrArg Value.bool (by first|simp;done|simp;omega|omega)) ?_
     refine .gT ?_
     refine .move ?_
     refine .gT ?_
     refine .call (hc:=Tryz.call207) (sp:=hasAny (xs:=xs) (by omega)) (h:=?_)
     rintro _ _ ⟨rfl,rfl⟩
     refine .gT ?_
     refine .not ?_
     refine .cast (d:=13) (u:=.bool true) rfl (congrArg Value.bool (by rw [h3];rfl)) ?_
     refine .pickT ?_
     refine .move ?_
     refine .gT ?_
     refine .move ?_
     refine .gT ?_
     refine .neS _ _ ?_
     refine .cast (d:=17) (u:=.bool true) rfl (congrArg Value.bool (by simp [h4])) ?_
     refine .pickT ?_
     refine .move ?_
     refine .gT ?_
     refine .move ?_
     refine .gT ?_
     refine .neS _ _ ?_
     refine .pickT ?_
     refine .assign (.z ?_)
     refine .ret (?_)
     exact .ret1 (h1:=.tmp (t:=2) rfl) ⟨_,⟨by simp [*],rfl⟩,Am.auto⟩
   ·refine .sr (.assign (.x (.move ?_)))
    refine .neS _ _ ?_
    refine .cast (d:=4) (u:=.bool true) rfl (congrArg Value.bool (by simp [h1])) ?_
    refine .move ?_
    refine .gT ?_
    refine .move ?_
    refine .gT ?_
    refine .lenT _ ?_ st9
    refine .gT ?_
    refine .leq ?_
    refine .pickT ?_
    refine .move ?_
    refine .cast (d:=10) (u:=.bool true) rfl (congrArg Value.bool (by first|simp;done|simp;omega|omega)) ?_
    refine .gT ?_
    refine .move ?_
    refine .gT ?_
    refine .call (hc:=Tryz.call207) (sp:=hasAny (xs:=xs) (by omega)) (h:=?_)
    rintro _ _ ⟨rfl,rfl⟩
    refine .gT ?_
    refine .not ?_
    refine .cast (d:=13) (u:=.bool false) rfl (congrArg Value.bool (by rw [h3];rfl)) ?_
    refine .pickT ?_
    refine .move ?_
    refine .gF ?_
    refine .gF ?_
    refine .pickF ?_
    refine .move ?_
    refine .gF ?_
    refine .gF ?_
    refine .pickF ?_
    refine .assign (.z ?_)
    refine .ret (?_)
    exact .ret1 (h1:=.tmp (t:=2) rfl) ⟨_,⟨by simp [*],rfl⟩,Am.auto⟩
  ·refine .sr (.assign (.x (.move ?_)))
   refine .neS _ _ ?_
   refine .cast (d:=4) (u:=.bool true) rfl (congrArg Value.bool (by simp [h1])) ?_
   refine .move ?_
   refine .gT ?_
   refine .move ?_
   refine .gT ?_
   refine .lenT _ ?_ st9
   refine .gT ?_
   refine .leq ?_
   refine .pickT ?_
   refine .move ?_
   refine .cast (d:=10) (u:=.bool false) rfl (congrArg Value.bool (by first|simp;done|simp;omega|omega)) ?_
   refine .gF ?_
   refine .gF ?_
   refine .gF ?_
   refine .pickF ?_
   refine .move ?_
   refine .gF ?_
   refine .gF ?_
   refine .pickF ?_
   refine .move ?_
   refine .gF ?_
   refine .gF ?_
   refine .pickF ?_
   refine .assign (.z ?_)
   refine .ret (?_)
   exact .ret1 (h1:=.tmp (t:=2) rfl) ⟨_,⟨by simp [*],rfl⟩,Am.auto⟩
abbrev Slot :=Option (Bytes×Nat)
def keyB (nm:Bytes):Bytes:=(UInt8.ofNat nm.length :: (nm++List.replicate 50 0)).take 51
theorem keyB_length (nm:Bytes):(keyB nm).length=51:=by
 unfold keyB
 rw [List.length_take,List.length_cons,List.length_append,List.length_replicate]
 omega
abbrev K51 :={xs:Bytes // xs.length=51}
def keyK (nm:Bytes):K51:=⟨keyB nm,keyB_length nm⟩
theorem keyB_head (nm:Bytes):(keyB nm)[0]?=some (UInt8.ofNat nm.length):=by
 unfold keyB;rfl
theorem keyB_inj {a b:Bytes} (ha:a.length<=50) (hb:b.length<=50) (h:keyB a=keyB b):a=b:=by
 have h0:UInt8.ofNat a.length=UInt8.ofNat b.length:=by
  have:=congrArg (fun l:Bytes=>l[0]?) h
  simp only [keyB_head,Option.some.injEq] at this
  exact this
 have hl:a.length=b.length:=by
  have:=congrArg UInt8.toNat h0
  rw [UInt8.toNat_ofNat',UInt8.toNat_ofNat'] at this
  omega
 have h1:(a++List.replicate 50 0).take 50=(b++List.replicate 50 0).take 50:=by
  unfold keyB at h
  rw [List.take_succ_cons,List.take_succ_cons] at h
  exact (List.cons.inj h).2
 have h2:=congrArg (List.take a.length) h1
 rw [List.take_take,List.take_take,Nat.min_eq_left ha,List.take_append_of_le_length (Nat.le_refl _),List.take_length,hl,List.take_append_of_le_length (Nat.le_refl _),List.take_length] at h2
 exact h2
theorem put4_append {a b:Bytes} (h:4<=a.length) (v:Nat):put4 (a++b) 0 v=put4 a 0 v++b:=by
 simp only [put4,put,putN,Bool.false_eq_true,if_false]
 rw [List.set_append_left _ _ (by omega),List.set_append_left _ _ (by rw [List.length_set];omega),List.set_append_left _ _ (by rw [List.length_set,List.length_set];omega),List.set_append_left _ _ (by rw [List.length_set,List.length_set,List.length_set];omega)]
def slotB :Slot->Bytes
 | none=>List.replicate 64 0
 | some (nm,i)=>put4 (List.replicate 4 0) 0 i++(keyB nm++List.replicate 9 0)
theorem slotB_made {nm:Bytes} (i:Nat):(put4 (List.replicate 64 0) 0 i).take 4++keyB nm++(put4 (List.replicate 64 0) 0 i).drop 55=slotB (some (nm,i)):=by
 have h1:(List.replicate 64 (0:UInt8))=List.replicate 4 0++List.replicate 60 0:=rfl
 have h4:(put4 (List.replicate 4 0) 0 i).length=4:=by rw [put4_length];rfl
 rw [h1,put4_append (by rw [List.length_replicate];decide),List.take_left' h4,show 55=4+51 from rfl,<-List.drop_drop,List.drop_left' h4,List.append_assoc]
 rfl
theorem keyB_made {nm:Bytes} (h:nm.length<=50):(UInt8.ofNat nm.length :: List.replicate 50 0).take 1++nm.take (min nm.length 50)++(UInt8.ofNat nm.length :: List.replicate 50 0).drop (1+min nm.length 50)=keyB nm:=by
 rw [Nat.min_eq_left h,List.take_length,show 1+nm.length=nm.length+1 from by omega,List.drop_succ_cons,List.drop_replicate]
 have h1:(nm++List.replicate 50 (0:UInt8)).take 50=nm++List.replicate (50 - nm.length) 0:=by
  rw [List.take_append,List.take_of_length_le h,List.take_replicate,Nat.min_eq_left (by omega)]
 show _=UInt8.ofNat nm.length :: ((nm++List.replicate 50 0).take 50)
 rw [h1]
 rfl
theorem slotB_length (s:Slot):(slotB s).length=64:=by
 cases s with
 | none=>exact List.length_replicate
 | some x=>rw [slotB,List.length_append,put4_length,List.length_append,keyB_length,List.length_replicate,List.length_replicate]
def dirB (sl:List Slot):Bytes:=sl.flatMap slotB
theorem dirB_nil :dirB []=[]:=rfl
theorem dirB_append (a b:List Slot):dirB (a++b)=dirB a++dirB b:=List.flatMap_append
theorem dirB_length :∀ sl:List Slot,(dirB sl).length=64 * sl.length
 | []=>rfl
 | s :: sl=>by
  have:=dirB_length sl
  unfold dirB at this ⊢
  rw [List.flatMap_cons,List.length_append,slotB_length,this,List.length_cons];omega
theorem dirB_split {sl:List Slot} {q:Nat} (h:q < sl.length):dirB sl=dirB (sl.take q)++(slotB sl[q]++dirB (sl.drop (q+1))):=by
 have h1:dirB [sl[q]]=slotB sl[q]:=by unfold dirB;rw [List.flatMap_cons,List.flatMap_nil,List.append_nil]
 rw [<- h1,<-dirB_append,<-dirB_append]
 congr 1
 rw [List.singleton_append,List.getElem_cons_drop,List.take_append_drop]
theorem dirB_at {sl:List Slot} {q r k:Nat} (h:q < sl.length) (hk:r+k<=64):((dirB sl).drop (64 * q+r)).take k=((slotB sl[q]).drop r).take k:=by
 have hl:(dirB (sl.take q)).length=64 * q:=by rw [dirB_length,List.length_take];omega
 rw [dirB_split h,<-hl,<-List.drop_drop,List.drop_left,List.drop_append_of_le_length (by rw [slotB_length];omega),List.take_append_of_le_length (by rw [List.length_drop,slotB_length];omega)]
def keyOf :Slot->Bytes
 | none=>List.replicate 51 0
 | some (nm,_)=>keyB nm
theorem slotB_key (s:Slot):((slotB s).drop 4).take 51=keyOf s:=by
 cases s with
 | none=>rfl
 | some x =>
  obtain ⟨nm,i⟩:=x
  have h4:(put4 (List.replicate 4 0) 0 i).length=4:=by rw [put4_length];rfl
  show ((put4 (List.replicate 4 0) 0 i++(keyB nm++List.replicate 9 0)).drop 4).take 51=keyB nm
  rw [List.drop_left' h4,List.take_left' (keyB_length nm)]
theorem dirB_key {sl:List Slot} {q:Nat} (h:q < sl.length):((dirB sl).drop (64 * q+4)).take 51=keyOf sl[q]:=by
 rw [dirB_at h (by decide),slotB_key]
theorem keyOf_length (s:Slot):(keyOf s).length=51:=by
 cases s with
 | none=>exact List.length_replicate
 | some x=>exact keyB_length x.1
theorem num_take {xs:Bytes} {q:Nat}:num xs q=num ((xs.drop q).take 4) 0:=by
 unfold num
 simp only [List.getD_eq_getElem?_getD,List.getElem?_take,List.getElem?_drop,Nat.add_zero,Nat.zero_add]
 rfl
theorem dirB_num {sl:List Slot} {q:Nat} {nm:Bytes} {i:Nat} (h:q < sl.length) (hs:sl[q]=some (nm,i)) (hi:i < 4294967296):num (dirB sl) (64 * q)=i:=by
 have h1:=dirB_at (r:=0) (k:=4) h (by decide)
 have h4:(put4 (List.replicate 4 0) 0 i).length=4:=by rw [put4_length];rfl
 rw [num_take,show 64 * q=64 * q+0 from rfl,h1,hs,List.drop_zero]
 show num ((put4 (List.replicate 4 0) 0 i++(keyB nm++List.replicate 9 0)).take 4) 0=i
 rw [List.take_left' h4]
 exact num_put4 (by rw [List.length_replicate];decide) hi
def setS (sl:List Slot) (q:Nat) (s:Slot):List Slot:=sl.take q++s :: sl.drop (q+1)
theorem setS_wr {sl:List Slot} {q:Nat} (h:q<=sl.length) (s:Slot):wrB (dirB sl) (64 * q) (slotB s)=dirB (setS sl q s):=by
 have hl:=dirB_length sl
 have ht:(dirB (sl.take q)).length=64 * q:=by rw [dirB_length,List.length_take];omega
 have h1:dirB (s :: sl.drop (q+1))=slotB s++dirB (sl.drop (q+1)):=by unfold dirB;rw [List.flatMap_cons]
 unfold setS
 rw [dirB_append,h1]
 unfold wrB splice
 by_cases hq:q < sl.length
 ·have hx:ext (dirB sl) (64 * q+(slotB s).length)=dirB sl:=by
   unfold ext
   rw [slotB_length,show 64 * q+64 - (dirB sl).length=0 from by omega,List.replicate_zero,List.append_nil]
  have e1:(dirB sl).take (64 * q)=dirB (sl.take q):=by
   rw [dirB_split hq,List.take_left' ht]
  have e2:(dirB sl).drop (64 * q+(slotB s).length)=dirB (sl.drop (q+1)):=by
   rw [dirB_split hq,<-List.append_assoc,List.drop_left' (by rw [List.length_append,ht,slotB_length,slotB_length])]
  simp only [hx,e1,e2,List.append_assoc]
 ·have hqe:q=sl.length:=by omega
  have e0:sl.take q=sl:=by rw [hqe,List.take_length]
  have e3:sl.drop (q+1)=[]:=List.drop_eq_nil_of_le (by omega)
  rw [e0,e3,dirB_nil,List.append_nil]
  have e1:(ext (dirB sl) (64 * q+(slotB s).length)).take (64 * q)=dirB sl:=by
   unfold ext
   rw [List.take_left' (by omega)]
  have e2:(ext (dirB sl) (64 * q+(slotB s).length)).drop (64 * q+(slotB s).length)=[]:=by
   refine List.drop_eq_nil_of_le ?_
   unfold ext
   rw [List.length_append,List.length_replicate,slotB_length];omega
  simp only [e1,e2,List.append_nil]
def foundV (at' i:Nat):Value:=.agg #[nI at',nI i]
def stepK (kv:List (K51×Value)) (q:Nat):Slot->List (K51×Value)
 | none=>kv
 | some (nm,i)=>kput kv (keyK nm) (foundV (64 * q) i)
def kvF (sl:List Slot):Nat->List (K51×Value)
 | 0=>[]
 | q+1=>match sl[q]? with
  | some s=>stepK (kvF sl q) q s
  | none=>kvF sl q
def freeF (sl:List Slot):Nat->Option Nat
 | 0=>none
 | q+1=>match freeF sl q with
  | some r=>some r
  | none=>if sl[q]?=some none then some q else none
def freeS (sl:List Slot):Nat:=(freeF sl sl.length).getD sl.length
theorem freeF_some {sl:List Slot}:∀ {n r:Nat},freeF sl n=some r->r < n/\sl[r]?=some none/\∀ j,j < r->sl[j]?≠some none
 | n+1,r,h=>by
  rw [freeF] at h
  cases hf:freeF sl n with
  | some r' =>
   rw [hf] at h
   obtain rfl:r'=r:=by simpa using h
   obtain ⟨h1,h2⟩:=freeF_some hf
   exact ⟨by omega,h2⟩
  | none =>
   rw [hf] at h
   simp only at h
   split at h
   ·rename_i hs
    obtain rfl:n=r:=by simpa using h
    refine ⟨by omega,hs,fun j hj hh=>?_⟩
    have:=freeF_none (sl:=sl) hf j hj
    exact this hh
   ·cases h
where
 freeF_none {sl:List Slot}:∀ {n:Nat},freeF sl n=none->∀ j,j < n->sl[j]?≠some none
 | n+1,h,j,hj=>by
  rw [freeF] at h
  cases hf:freeF sl n with
  | some r'=>rw [hf] at h;cases h
  | none =>
   rw [hf] at h
   simp only at h
   split at h
   ·cases h
   ·rename_i hs
    by_cases hjn:j=n
    ·subst hjn;exact hs
    ·exact freeF_none hf j (by omega)
theorem freeS_le (sl:List Slot):freeS sl<=sl.length:=by
 unfold freeS
 cases h:freeF sl sl.length with
 | none=>exact Nat.le_refl _
 | some r=>exact Nat.le_of_lt (freeF_some h).1
structure DirOk (sl:List Slot):Prop where
 nm:∀ (q:Nat) (n:Bytes) (i:Nat),sl[q]?=some (some (n,i))->(1<=n.length/\n.length<=50)/\i < 4294967296
 one:∀ (q r:Nat) (n:Bytes) (i j:Nat),sl[q]?=some (some (n,i))->sl[r]?=some (some (n,j))->q=r
theorem DirOk.nil :DirOk []:=⟨fun q n i h=>(by cases h),fun q r n i j h=>(by cases h)⟩
theorem keyK_inj {a b:Bytes} (ha:a.length<=50) (hb:b.length<=50) (h:keyK a=keyK b):a=b:=keyB_inj ha hb (congrArg Subtype.val h)
theorem kvF_has {sl:List Slot} (hd:DirOk sl) {q i:Nat} {n:Bytes} (h:sl[q]?=some (some (n,i))):∀ m,q < m->kget (kvF sl m) (keyK n)=some (foundV (64 * q) i)
 | m+1,hm=>by
  rw [kvF]
  by_cases hq:q=m
  ·subst hq
   rw [h]
   show kget (kput (kvF sl q) (keyK n) (foundV (64 * q) i)) (keyK n)=_
   rw [kget_put,if_pos rfl]
  ·have ih:=kvF_has hd h m (by omega)
   cases hs:sl[m]? with
   | none=>exact ih
   | some s =>
    cases s with
    | none=>exact ih
    | some x =>
     obtain ⟨n',i'⟩:=x
     show kget (kput (kvF sl m) (keyK n') (foundV (64 * m) i')) (keyK n)=_
     rw [kget_put,if_neg,ih]
     intro hk
     have:=keyK_inj (hd.nm _ _ _ h).1.2 (hd.nm _ _ _ hs).1.2 hk
     subst this
     exact hq (hd.one _ _ _ _ _ h hs)
theorem kvF_no {sl:List Slot} (hd:DirOk sl) {n:Bytes} (hn:n.length<=50) (h:∀ (q i:Nat),sl[q]?≠some (some (n,i))):∀ m,kget (kvF sl m) (keyK n)=none
 | 0=>rfl
 | m+1=>by
  rw [kvF]
  have ih:=kvF_no hd hn h m
  cases hs:sl[m]? with
  | none=>exact ih
  | some s =>
   cases s with
   | none=>exact ih
   | some x =>
    obtain ⟨n',i'⟩:=x
    show kget (kput (kvF sl m) (keyK n') (foundV (64 * m) i')) (keyK n)=_
    rw [kget_put,if_neg,ih]
    intro hk
    have:=keyK_inj hn (hd.nm _ _ _ hs).1.2 hk
    subst this
    exact h _ _ hs
theorem agg233 :aggOk Tryz.prog 233 51=true:=by kernel_rfl
theorem ar233 :arrOk Tryz.prog 233 5 51 1=true:=by kernel_rfl
theorem un233 :Tryz.prog.underlying 233=some (.array 51 5):=by kernel_rfl
theorem fo75_0 :fieldOk Tryz.prog 75 0 0=true:=by kernel_rfl
theorem fo75_1 :fieldOk Tryz.prog 75 1 1=true:=by kernel_rfl
theorem mp226 :mapOk Tryz.prog 226 233 230=true:=by kernel_rfl
theorem key0 :zeroOf Tryz.prog 233=some (bvs (List.replicate 51 0)).toArray:=by kernel_rfl
theorem keyB_single (nm:Bytes):∀ v∈bvs (keyB nm),Value.single v=true:=bvs_single _
theorem bvsK_length (nm:Bytes):(bvs (keyB nm)).length=51:=by rw [bvs_length,keyB_length]
theorem dOf {nm:Bytes} (hn:nm.length<=50):Spec Tryz.prog 159 #[sv nm] [] fun F v M=>v=arrV (keyB nm)/\M=F:=by
 refine Spec.intro Tryz.func159 rfl rfl fun B F=>?_
 simp only [Tryz.ntmps159,List.cons_append,List.nil_append,env0,Nat.reduceAdd]
 refine .sr ?_
 refine .allocL (us:=bvs (List.replicate 51 0)) key0 rfl fun b2=>?_
 refine .x (.move ?_)
 refine .lenT _ ?_ st9
 refine .cvt ?_ un3 un5
 refine .cast (d:=5) (u:=bv (UInt8.ofNat nm.length)) rfl (congrArg (Value.int .u8) (by rw [UInt8.toNat_ofNat',IntWalk.u8_in _ (by omega)];omega)) ?_
 refine .idxA ?_ ar233
 refine .stL (xs:=bvs (List.replicate 51 0)) (i:=0) ?_ sc5 (by rw [bvs_length,List.length_replicate];decide)
 refine .to (A:=row b2 233 ((bvs (List.replicate 51 0)).set 0 (bv (UInt8.ofNat nm.length)))) (A':=buf b2 233 51 (bvs (UInt8.ofNat nm.length :: List.replicate 50 0))) (fun h hh=>buf_of_row (by rw [bvs_length];rfl) h hh) ?_
 refine .x ?_
 refine .slcArrL ?_ ar233
 refine .move ?_
 refine .copyS nm so59 ?_ (hdl:=by rw [bvs_length];exact Nat.le_refl _)
 refine .to (A:=buf b2 233 51 ((bvs (UInt8.ofNat nm.length :: List.replicate 50 0)).take 1++(bvs nm).take (min nm.length 50)++(bvs (UInt8.ofNat nm.length :: List.replicate 50 0)).drop (1+min nm.length 50))) (A':=row b2 233 (bvs (keyB nm))) (fun h hh=>row_of_buf (bvsK_length nm) h (by rw [<- keyB_made hn,bvs_append,bvs_append,bvs_take,bvs_take,bvs_drop];exact hh)) ?_
 refine .x ?_
 refine .ldW (xs:=bvs (keyB nm)) ?_ agg233 (bvsK_length nm)
 refine .stLA (xs:=bvs (keyB nm)) (us:=bvs (keyB nm)) ?_ agg233 (bvsK_length nm) (bvsK_length nm) (keyB_single nm)
 refine .z ?_
 refine .ret (?_)
 exact .ret1 (h1:=RV.aggL rfl agg233 (by repeat (first | exact .here | apply Rem.there | apply Repl.there | apply Mem.there)) (bvsK_length nm)) ⟨_,⟨rfl,rfl⟩,Am.auto⟩
theorem IN.more {s a c:Nat} {p:Pl} {F0 F:FM} {W W':Nat} {op:Bool} (h:W<=W'):∀ k,IN s a c p F0 F W op k->IN s a c p F0 F W' op k:=by
 intro k hk
 obtain ⟨y,hy,hs⟩:=(IN.opens s a c p F0 F W op).to k hk
 exact (IN.opens s a c p F0 F W' op).of y ⟨hy.r0,hy.r,hy.dk,Nat.le_trans hy.wt h⟩ k hs
theorem Rw.less {p:Pl} {W c c':Nat} (h:Rw p W c) (hc:c'<=c):Rw p W c':=by
 unfold Rw at h ⊢
 omega
theorem has_slot (n q:Nat) (h:64 * q<=64 * n):has (max (64 * n) (64 * q+64)) - has (64 * n)<=2:=by
 have h1:dat (max (64 * n) (64 * q+64))<=dat (64 * n)+1:=by unfold dat;omega
 unfold has
 split<;>split<;>omega
theorem slotP {nm:Bytes} (i:Nat):(bvs (put4 (List.replicate 64 0) 0 i)).take 4++(bvs (keyB nm)).take 51++(bvs (put4 (List.replicate 64 0) 0 i)).drop 55=bvs (slotB (some (nm,i))):=by
 rw [<- slotB_made,bvs_append,bvs_append,bvs_take,bvs_drop,List.take_of_length_le (Nat.le_of_eq (bvsK_length nm))]
theorem bdFound (v0 v1:Int):BuildOk Tryz.prog 230 [(0,.int .i64 v0),(1,.int .i64 v1)] #[.int .i64 v0,.int .i64 v1]:=fun w=>by kernel_rfl
theorem arrOkK :arrIntOk Tryz.prog 233 5 51=true:=by kernel_rfl
def encK :K51->Value:=fun k=>Value.agg (bvs k.1).toArray
theorem klN :KeyLaw Tryz.prog 233 encK:=arrKeys (fun k:K51=>k.1) arrOkK (fun k=>k.2) (fun a b h=>Subtype.ext h)
def freeI (sl:List Slot) (q:Nat):Int:=match freeF sl q with
 | some r=>((64 * r:Nat):Int)
 | none=>-1
theorem dLay {s a c:Nat} {p:Pl} {F0 Fm:FM} {W d q i:Nat} {nm:Bytes} {sl:List Slot} (ho:PlOk p) (hF:Fm d=some (2,dirB sl)) (hq:q<=sl.length) (hq2:q < 1104) (hn:nm.length<=50) (hi:i < 4294967296) (hw:Rw p W 13) (hfit:tot Fm p.ino+has (max (64 * sl.length) (64 * q+64))<=p.dc+has (64 * sl.length)) :
  Spec Tryz.prog 160 #[.pointer (some ⟨s,0,none⟩),nI d,nI (64 * q),sv nm,nI i] [IN s a c p F0 Fm W true] fun G v M=>v=okV/\M=IN s a c p F0 (updM Fm d (some (2,dirB (setS sl q (some (nm,i)))))) (W+8) true :: G:=by
 refine Spec.intro Tryz.func160 rfl rfl fun B F=>?_
 simp only [Tryz.ntmps160,List.cons_append,List.nil_append,env0,Nat.reduceAdd]
 have hdl:=dirB_length sl
 have hsl:=slotB_length (some (nm,i))
 have hhs:=has_slot sl.length q (by omega)
 refine .sr (.assign (.x ?_))
 refine .mkSN 64 z5 so59 (by decide) (by decide) fun b15=>?_
 refine .to (A':=buf b15 5 64 (bvs (List.replicate 64 0))) (fun h hh=>by rw [bvs_replicate];exact hh) ?_
 refine .move ?_
 refine .cvt ?_ un3 un148
 refine .cast (d:=17) (u:=.int .u64 (i:Int)) rfl (congrArg (Value.int .u64) (IntWalk.u64_in _ (by omega))) ?_
 refine .call (hc:=Tryz.call82) (sp:=bitsPut (n:=64) (xs:=List.replicate 64 0) (p:=0) (size:=4) (big:=false) (v:=i) Reads.buf List.length_replicate (by decide) (by decide) (by decide) (by decide) (by omega)) (h:=?_)
 rintro _ _ ⟨gb,qq,⟨rfl,h1,h2⟩,rfl⟩
 refine .move ?_
 refine .extract ?_
 refine .extract ?_
 refine .assign (.assign (.x (.move ?_)))
 refine .call (hc:=Tryz.call159) (sp:=dOf hn) (h:=?_)
 rintro _ _ ⟨rfl,rfl⟩
 refine .allocL (us:=bvs (List.replicate 51 0)) key0 rfl fun b13=>?_
 refine .stLA (xs:=bvs (List.replicate 51 0)) (us:=bvs (keyB nm)) ?_ agg233 (bvsK_length nm) rfl (keyB_single nm)
 refine .to (A:=row b13 233 (bvs (keyB nm))) (A':=buf b13 233 51 (bvs (keyB nm))) (fun h hh=>buf_of_row (bvsK_length nm) h hh) ?_
 refine .z (.seq ?_)
 refine .dr ([]) [] 4 mixed .autoJ ?_
 refine .tk 0 rfl .move ?_
 refine .tk 1 rfl ((Qt.slcL so59).eq (v':=.slice (some ⟨gb,4,none⟩) 60 (qq - 4)) (by rw [if_neg (by show ¬ qq=4;omega)];rfl)) ?_
 refine .tk 2 rfl (Qt.slcArr un233 (by kernel_rfl)) ?_
 refine .on 3 rfl fun hnp=>?_
 refine .copy (R:=buf b13 233 51 (bvs (keyB nm))) (m:=51) (g:=gb) (off:=4) (dl:=60) (k:=qq) (xs:=bvs (put4 (List.replicate 64 0) 0 i)) (ys:=bvs (keyB nm)) so59 Reads.buf (bvsK_length nm) (bvs_single _) ?_ (hdl:=by rw [bvs_length,put4_length,List.length_replicate];decide)
 refine .to (A':=buf gb 5 qq (bvs (slotB (some (nm,i))))) (fun h hh=>by rw [<- slotP];exact hh) ?_
 refine .nil (.wa hnp ?_)
 refine .fin ?_
 refine .next (.sr (.move (.move (.move (.move ?_)))))
 refine .call (hc:=Tryz.call57) (sp:=nWrite (s:=s) (a:=a) (c:=c) (p:=p) (F0:=F0) (F:=Fm) (W:=W) (i:=d) (at':=64 * q) (f:=(2,dirB sl)) (bs:=slotB (some (nm,i))) (m:=64) ho hF (hw.less (by show has (max (dirB sl).length (64 * q+64)) - has (dirB sl).length+(64+511) / 512+10<=13;rw [hdl];omega)) (.inr Reads.buf) hsl (by omega) h2 (by show 64 * q<=(dirB sl).length;omega) (by omega) (by show tot Fm p.ino+has (max (dirB sl).length (64 * q+64))<=p.dc+has (dirB sl).length;rw [hdl];exact hfit)) (h:=?_)
 rintro _ _ ⟨rfl,rfl⟩
 refine .assign (.z ?_)
 refine .ret (?_)
 simp only [setS_wr hq]
 refine .to (A':=IN s a c p F0 (updM Fm d (some (2,dirB (setS sl q (some (nm,i)))))) (W+8) true) (fun h hh=>IN.more (by show W+(has (max (dirB sl).length (64 * q+64)) - has (dirB sl).length)+(64+511) / 512+5<=W+8;rw [hdl];omega) h hh) ?_
 exact .ret1 (h1:=.tmp (t:=10) rfl) ⟨_,⟨rfl,rfl⟩,Am.auto⟩
theorem freeI_pos {sl:List Slot} {q r:Nat} (h:freeF sl q=some r):freeI sl q=((64 * r:Nat):Int):=by unfold freeI;rw [h]
theorem freeI_neg {sl:List Slot} {q:Nat} (h:freeF sl q=none):freeI sl q=-1:=by unfold freeI;rw [h]
theorem freeI_keep {sl:List Slot} {q r:Nat} (h:freeF sl q=some r):freeI sl (q+1)=((64 * r:Nat):Int):=freeI_pos (by rw [freeF,h])
theorem freeI_new {sl:List Slot} {q:Nat} (h:freeF sl q=none) (hs:sl[q]?=some none):freeI sl (q+1)=((64 * q:Nat):Int):=freeI_pos (by rw [freeF,h];simp [hs])
theorem freeI_full {sl:List Slot} {q:Nat} {x:Bytes×Nat} (hs:sl[q]?=some (some x)):freeI sl (q+1)=freeI sl q:=by
 unfold freeI
 rw [freeF]
 cases h:freeF sl q with
 | some r=>rfl
 | none=>simp [hs]
theorem keyOf_single (s:Slot):∀ v∈bvs (keyOf s),Value.single v=true:=bvs_single _
theorem bvsO_length (s:Slot):(bvs (keyOf s)).length=51:=by rw [bvs_length,keyOf_length]
theorem dNames {s a c:Nat} {p:Pl} {F0 Fm:FM} {W d:Nat} {op:Bool} {sl:List Slot} (ho:PlOk p) (hF:Fm d=some (2,dirB sl)) (hd:DirOk sl) (hsz:sl.length<=1104) :
  Spec Tryz.prog 182 #[.pointer (some ⟨s,0,none⟩),nI d] [IN s a c p F0 Fm W op] fun G v M=>∃ mp es cl,v=.tuple #[.map (some mp),nI (64 * freeS sl),.int .i64 0]/\MapIs encK es cl (kvF sl sl.length)/\M=pt mp (.map es cl) :: IN s a c p F0 Fm W op :: G:=by
 refine Spec.intro Tryz.func182 rfl rfl fun B F=>?_
 simp only [Tryz.ntmps182,List.cons_append,List.nil_append,env0,Nat.reduceAdd]
 have hdl:=dirB_length sl
 refine .sr (.assign (.assign (.assign (.x (.move (.move ?_))))))
 refine .call (hc:=Tryz.call155) (sp:=nStat (s:=s) (a:=a) (c:=c) (p:=p) (F0:=F0) (F:=Fm) (W:=W) (op:=op) (i:=d) (f:=(2,dirB sl)) ho hF) (h:=?_)
 rintro _ _ ⟨rfl,rfl⟩
 refine .move ?_
 refine .extract ?_
 refine .extract ?_
 refine .alloc z75 fun b7=>?_
 refine .stV ?_ agg75
 refine .assign (.z (.seq (.sr (.move ?_))))
 refine .nei ?_
 refine .z ?_
 refine .condF rfl rfl ?_
 refine .skip (.next (.seq (.sr ?_)))
 refine .fa ?_ fo75_0
 refine .ld ?_ sc3
 refine .nei ?_
 refine .z ?_
 refine .condF rfl rfl ?_
 refine .skip (.next (.sr (.move (.move ?_))))
 refine .fa ?_ fo75_1
 refine .ld ?_ sc3
 refine .call (hc:=Tryz.call70) (sp:=nRead (s:=s) (a:=a) (c:=c) (p:=p) (F0:=F0) (F:=Fm) (W:=W) (op:=op) (i:=d) (at':=0) (k:=(dirB sl).length) (f:=(2,dirB sl)) ho hF (by decide) (by omega)) (h:=?_)
 rintro _ _ ⟨u,rfl,rfl⟩
 simp only [List.drop_zero,List.take_length]
 refine .move ?_
 refine .extract ?_
 refine .extract ?_
 refine .assign (.assign (.z (.seq (.sr (.move ?_)))))
 refine .nei ?_
 refine .z ?_
 refine .condF rfl rfl ?_
 refine .skip (.next (.sr ?_))
 refine .mkMap fun m36=>?_
 refine .assign (.assign (.z (.seq (.sr (.assign (.z (.block ?_)))))))
 refine .fact (rowR_shape (el:=5) (size:=1) (v:=u) (k:=(dirB sl).length) (xs:=bvs (dirB sl))) (fun ⟨A2,c2,hv2,hR2,hk2,hc2,hl2⟩=>?_)
 subst hv2
 refine .loopA (σ:=Nat×Array MapEntry×Nat) (fun y=>[(4,.map (some m36)),(5,.int .i64 (freeI sl y.1)),(8,.slice A2 (dirB sl).length c2),(9,nI (64 * y.1))]) (fun y=>[pt m36 (.map y.2.1 y.2.2),rowR 5 1 (.slice A2 (dirB sl).length c2) (dirB sl).length (bvs (dirB sl)),IN s a c p F0 Fm W op]++F) (fun y=>y.1<=sl.length/\MapIs encK y.2.1 y.2.2 (kvF sl y.1)) (fun y=>sl.length - y.1) (0,#[],0) ⟨Nat.zero_le _,MapIs.empty _ _⟩ ?_
 rintro y hy
 obtain ⟨q,es,cl⟩:=y
 obtain ⟨hq,hm⟩:=hy
 simp only at hq hm
 refine .seq (.sr (.move (.move ?_)))
 refine .lenS ?_ sl59
 refine .lss ?_
 refine .z ?_
 refine .cond rfl (fun hb=>?_) (fun hb=>?_)
 ·have hlt:q < sl.length:=by have h:((64 * q:Nat):Int) < ((dirB sl).length:Int):=of_decide_eq_true hb;omega
  rcases A2 with _ | ⟨ab,ao,asp⟩
  ·exact absurd hR2 (fun h=>by have h2:bvs (dirB sl)=[]:=h;have h3:(dirB sl).length=0:=(by have:=congrArg List.length h2;rwa [bvs_length] at this);omega)
  have hsp:asp=none:=hR2.1
  subst hsp
  have hp1:(((64 * q:Nat):Int)+4).toNat=64 * q+4:=by omega
  have hp2:(((64 * q:Nat):Int)+4+51).toNat=64 * q+55:=by omega
  have hgs:sl[q]?=some sl[q]:=List.getElem?_eq_getElem hlt
  obtain ⟨sq,hsq⟩:∃ sq,sl[q]=sq:=⟨_,rfl⟩
  have hkq:=dirB_key hlt
  rw [hsq] at hgs hkq
  have hkv:kvF sl (q+1)=stepK (kvF sl q) q sq:=by rw [kvF,hgs]
  refine .skip (.next (.seq (.block (.sr (.move (.move ?_))))))
  refine .add ?_
  refine .move ?_
  refine .add ?_
  refine .add ?_
  refine .slcLH ?_ so59
  refine .cast (d:=49) (u:=.slice (some ⟨ab,ao+(64 * q+4),none⟩) 51 (c2 - (64 * q+4))) rfl (by rw [hp1,hp2,if_neg (show ¬ c2=64 * q+4 by omega),Nat.mul_one,show 64 * q+55 - (64 * q+4)=51 from by omega]) ?_
  refine .toArr ?_ un233
  refine .ldAR (i:=64 * q+4) (xs:=bvs (dirB sl)) (us:=bvs (keyOf sq)) ?_ agg233 hR2 (by rw [<- bvs_drop,<-bvs_take,hkq]) (by rw [bvs_length];omega)
  refine .allocL (us:=bvs (List.replicate 51 0)) key0 rfl fun b10=>?_
  refine .stLA (xs:=bvs (List.replicate 51 0)) (us:=bvs (keyOf sq)) ?_ agg233 (bvsO_length sq) rfl (keyOf_single sq)
  refine .z (.seq (.sr ?_))
  refine .idxA ?_ ar233
  cases sq
  ·refine .ldL (xs:=bvs (keyOf none)) (i:=0) (v:=.int .u8 0) ?_ sc5 rfl
   refine .eqi ?_
   refine .z ?_
   refine .condT rfl rfl ?_
   refine .seq (.sr (.move ?_))
   refine .lss ?_
   refine .z ?_
   cases hfr:freeF sl q
   ·rw [freeI_neg hfr]
    refine .condT rfl rfl ?_
    refine .region (.move (.assign (.z ?_)))
    refine .exit (.thenExit (.blockExit (?_)))
    refine .next (.region (.move ?_))
    refine .add ?_
    refine .assign (.nil ?_)
    refine .cast (d:=9) (u:=nI (64 * (q+1))) rfl (congrArg (Value.int .i64) (by omega)) ?_
    refine .cast (d:=5) (u:=.int .i64 (freeI sl (q+1))) rfl (congrArg (Value.int .i64) (by rw [freeI_new hfr hgs])) ?_
    exact .back (q+1,es,cl) ⟨by show q+1<=sl.length;omega,(by rw [hkv];exact hm)⟩ (by show sl.length - (q+1) < sl.length - q;omega)
   ·rename_i r
    rw [freeI_pos hfr]
    refine .condF rfl (congrArg Value.bool (by first|simp;done|simp;omega|omega)) ?_
    refine .skip (.next ?_)
    refine .exit (.thenExit (.blockExit (?_)))
    refine .next (.region (.move ?_))
    refine .add ?_
    refine .assign (.nil ?_)
    refine .cast (d:=9) (u:=nI (64 * (q+1))) rfl (congrArg (Value.int .i64) (by omega)) ?_
    refine .cast (d:=5) (u:=.int .i64 (freeI sl (q+1))) rfl (congrArg (Value.int .i64) (by rw [freeI_keep hfr])) ?_
    exact .back (q+1,es,cl) ⟨by show q+1<=sl.length;omega,(by rw [hkv];exact hm)⟩ (by show sl.length - (q+1) < sl.length - q;omega)
  ·rename_i x
   obtain ⟨nm,i⟩:=x
   have hnm:=hd.nm q nm i hgs
   have hnum:=dirB_num hlt hsq hnm.2
   have hx0:(bvs (keyOf (some (nm,i))))[0]?=some (bv (UInt8.ofNat nm.length)):=by show (bvs (keyB nm))[0]?=_;unfold bvs;rw [List.getElem?_map,keyB_head];rfl
   have hxn:((UInt8.ofNat nm.length).toNat:Int)≠0:=by rw [UInt8.toNat_ofNat'];omega
   refine .ldL (xs:=bvs (keyOf (some (nm,i)))) (i:=0) (v:=bv (UInt8.ofNat nm.length)) ?_ sc5 hx0
   refine .eqi ?_
   refine .cast (d:=54) (u:=.bool false) rfl (congrArg Value.bool (decide_eq_false hxn)) ?_
   refine .z ?_
   refine .condF rfl rfl ?_
   refine .skip (.next (.sr (.move (.move ?_))))
   refine .call (hc:=Tryz.call105) (sp:=bitsGet (A:=⟨ab,ao,none⟩) (n:=(dirB sl).length) (c:=c2) (xs:=dirB sl) (p:=((64 * q:Nat):Int)) (size:=4) (big:=false) hR2 rfl (by omega) (by decide) (by omega) (by omega)) (h:=?_)
   rintro _ _ ⟨rfl,rfl⟩
   refine .cast (d:=61) (u:=.tuple #[.int .u64 (i:Int),.bool true]) rfl (by rw [show (((64 * q:Nat):Int)).toNat=64 * q from by omega,show (4:Int).toNat=4 from rfl,num_seg (by omega),hnum]) ?_
   refine .move ?_
   refine .extract ?_
   refine .extract ?_
   refine .assign (.assign (.y (.move ?_)))
   refine .ldW (xs:=bvs (keyOf (some (nm,i)))) ?_ agg233 (bvsO_length _)
   refine .move (.move ?_)
   refine .cvt ?_ un148 un3
   refine .cast (d:=68) (u:=nI i) rfl (congrArg (Value.int .i64) (IntWalk.i64_in _ (by omega))) ?_
   refine .build ?_ (bdFound _ _)
   refine .upd (k:=keyK nm) (v:=foundV (64 * q) i) klN hm mp226 fun es_1 c_1 hm_1=>?_
   refine .nil (.blockNormal (.next (.region (.move ?_))))
   refine .add ?_
   refine .assign (.nil ?_)
   refine .cast (d:=9) (u:=nI (64 * (q+1))) rfl (congrArg (Value.int .i64) (by omega)) ?_
   refine .cast (d:=5) (u:=.int .i64 (freeI sl (q+1))) rfl (congrArg (Value.int .i64) (by rw [freeI_full hgs])) ?_
   exact .back (q+1,es_1,c_1) ⟨by show q+1<=sl.length;omega,(by rw [hkv];exact hm_1)⟩ (by show sl.length - (q+1) < sl.length - q;omega)
 ·have hge:¬ q < sl.length:=by have h:¬ ((64 * q:Nat):Int) < ((dirB sl).length:Int):=of_decide_eq_false hb;omega
  have hqe:q=sl.length:=by omega
  subst hqe
  refine .exit (.thenExit (.thenExit (.blockExit (?_))))
  refine .next (.seq (.sr (.move ?_)))
  refine .lss ?_
  refine .z ?_
  cases hfr:freeF sl sl.length
  ·have hfs:freeS sl=sl.length:=by unfold freeS;rw [hfr];rfl
   rw [freeI_neg hfr]
   refine .condT rfl rfl ?_
   refine .region (.move ?_)
   refine .lenS ?_ sl59
   refine .assign (.x (.move (.move (.assign (.assign (.assign (.z ?_)))))))
   refine .ret (?_)
   exact .ret3 (h1:=.tmp (t:=4) rfl) (h2:=.tmp (t:=5) rfl) (h3:=.tmp (t:=6) rfl) ⟨_,⟨m36,es,cl,by rw [hfs,<-hdl];rfl,hm,rfl⟩,Am.auto⟩
  ·rename_i r
   have hfs:freeS sl=r:=by unfold freeS;rw [hfr];rfl
   rw [freeI_pos hfr]
   refine .condF rfl (congrArg Value.bool (by first|simp;done|simp;omega|omega)) ?_
   refine .skip (.next (.sr (.move (.move (.assign (.assign (.assign (.z ?_))))))))
   refine .ret (?_)
   exact .ret3 (h1:=.tmp (t:=4) rfl) (h2:=.tmp (t:=5) rfl) (h3:=.tmp (t:=6) rfl) ⟨_,⟨m36,es,cl,by rw [hfs];rfl,hm,rfl⟩,Am.auto⟩
theorem zv230 :zvOf Tryz.prog 230=some (.agg (#[.int .i64 0,.int .i64 0])):=by kernel_rfl
theorem z230 :zeroOf Tryz.prog 230=some (#[.int .i64 0,.int .i64 0]):=by kernel_rfl
theorem agg230 :aggOk Tryz.prog 230 2=true:=by kernel_rfl
theorem fo230_1 :fieldOk Tryz.prog 230 1 1=true:=by kernel_rfl
theorem nReady {s a c:Nat} {p:Pl} {F0 Fm:FM} {W:Nat} {op:Bool}:Spec Tryz.prog 89 #[.pointer (some ⟨s,0,none⟩)] [IN s a c p F0 Fm W op] fun G v M=>v=.bool op/\M=IN s a c p F0 Fm W op :: G:=by
 refine Spec.opens (IN.opens s a c p F0 Fm W op) fun y hy=>((inReady (s:=s) (c:=c) (a:=a) (n:=p.n) (p:=p) (V0:=y.1) (V:=y.2.1) (D:=y.2.2) (op:=op)).mid).post ?_
 rintro G v M ⟨rfl,rfl⟩
 exact ⟨_,⟨rfl,rfl⟩,Wk.trans (Am.wk Am.auto) (Wk.shutR (M:=G) (IN.opens s a c p F0 Fm W op) y hy)⟩
def FindErr (nm:Bytes) (F:FM) (d:Int) (e:Int):Prop :=
 (nameOk nm=false/\e=1) ∨ (nameOk nm=true/\fileAt F d=none/\e=4) ∨ (nameOk nm=true/\(∃ k b,0<=d/\F d.toNat=some (k,b)/\k≠2)/\e=6)
theorem nameOk_len {nm:Bytes} (h:nameOk nm=true):1<=nm.length/\nm.length<=50:=by
 unfold nameOk at h
 simp only [Bool.and_eq_true,Bool.not_eq_true',decide_eq_false_iff_not,decide_eq_true_iff] at h
 obtain ⟨h1,h2,_⟩:=h
 refine ⟨?_,h2⟩
 cases nm with
 | nil=>exact absurd rfl h1
 | cons _ _=>rw [List.length_cons];omega
theorem dNamesNo {s a c:Nat} {p:Pl} {F0 Fm:FM} {W:Nat} {d:Int} {op:Bool} (ho:PlOk p) (hF:fileAt Fm d=none):Spec Tryz.prog 182 #[.pointer (some ⟨s,0,none⟩),.int .i64 d] [IN s a c p F0 Fm W op] fun G v M=>v=.tuple #[.map none,.int .i64 0,.int .i64 4]/\M=IN s a c p F0 Fm W op :: G:=by
 refine Spec.intro Tryz.func182 rfl rfl fun B F=>?_
 simp only [Tryz.ntmps182,List.cons_append,List.nil_append,env0,Nat.reduceAdd]
 refine .sr (.assign (.assign (.assign (.x (.move (.move ?_))))))
 refine .call (hc:=Tryz.call155) (sp:=nStatNo (s:=s) (a:=a) (c:=c) (p:=p) (F0:=F0) (F:=Fm) (W:=W) (op:=op) (i:=d) ho hF) (h:=?_)
 rintro _ _ ⟨rfl,rfl⟩
 refine .move ?_
 refine .extract ?_
 refine .extract ?_
 refine .alloc z75 fun b7=>?_
 refine .stV ?_ agg75
 refine .assign (.z (.seq (.sr (.move ?_))))
 refine .nei ?_
 refine .z ?_
 refine .condT rfl rfl ?_
 refine .sr (.move (.assign (.assign (.assign (.z ?_)))))
 refine .ret (.thenRet (?_))
 exact .ret3 (h1:=.tmp (t:=4) rfl) (h2:=.tmp (t:=5) rfl) (h3:=.tmp (t:=6) rfl) ⟨_,⟨rfl,rfl⟩,Am.auto⟩
theorem dNamesKind {s a c:Nat} {p:Pl} {F0 Fm:FM} {W:Nat} {d k:Nat} {b:Bytes} {op:Bool} (ho:PlOk p) (hF:Fm d=some (k,b)) (hk:k≠2):Spec Tryz.prog 182 #[.pointer (some ⟨s,0,none⟩),nI d] [IN s a c p F0 Fm W op] fun G v M=>v=.tuple #[.map none,.int .i64 0,.int .i64 6]/\M=IN s a c p F0 Fm W op :: G:=by
 refine Spec.intro Tryz.func182 rfl rfl fun B F=>?_
 simp only [Tryz.ntmps182,List.cons_append,List.nil_append,env0,Nat.reduceAdd]
 refine .sr (.assign (.assign (.assign (.x (.move (.move ?_))))))
 refine .call (hc:=Tryz.call155) (sp:=nStat (s:=s) (a:=a) (c:=c) (p:=p) (F0:=F0) (F:=Fm) (W:=W) (op:=op) (i:=d) (f:=(k,b)) ho hF) (h:=?_)
 rintro _ _ ⟨rfl,rfl⟩
 refine .move ?_
 refine .extract ?_
 refine .extract ?_
 refine .alloc z75 fun b7=>?_
 refine .stV ?_ agg75
 refine .assign (.z (.seq (.sr (.move ?_))))
 refine .nei ?_
 refine .z ?_
 refine .condF rfl rfl ?_
 refine .skip (.next (.seq (.sr ?_)))
 refine .fa ?_ fo75_0
 refine .ld ?_ sc3
 refine .nei ?_
 refine .z ?_
 refine .condT rfl (congrArg Value.bool (by first|simp;done|simp;omega|omega)) ?_
 refine .sr (.assign (.assign (.assign (.z ?_))))
 refine .ret (.thenRet (?_))
 exact .ret3 (h1:=.tmp (t:=4) rfl) (h2:=.tmp (t:=5) rfl) (h3:=.tmp (t:=6) rfl) ⟨_,⟨rfl,rfl⟩,Am.auto⟩
theorem dNamesErr {s a c:Nat} {p:Pl} {F0 Fm:FM} {W:Nat} {d:Int} {op:Bool} {nm:Bytes} {e:Int} (ho:PlOk p) (hn:nameOk nm=true) (he:FindErr nm Fm d e):Spec Tryz.prog 182 #[.pointer (some ⟨s,0,none⟩),.int .i64 d] [IN s a c p F0 Fm W op] fun G v M=>v=.tuple #[.map none,.int .i64 0,.int .i64 e]/\M=IN s a c p F0 Fm W op :: G:=by
 rcases he with ⟨h,_⟩ | ⟨_,h,rfl⟩ | ⟨_,⟨k,b,h0,h,hk⟩,rfl⟩
 ·rw [hn] at h;cases h
 ·exact dNamesNo ho h
 ·have:=dNamesKind (s:=s) (a:=a) (c:=c) (F0:=F0) (W:=W) (op:=op) ho h hk
  rwa [show nI d.toNat=.int .i64 d from congrArg (Value.int .i64) (by omega)] at this
theorem dChg {s a c:Nat} {p:Pl} {F0 Fm:FM} {W:Nat} {d:Nat} {nm:Bytes} {sl:List Slot} (ho:PlOk p) (hn:nameOk nm=true) (hF:Fm d=some (2,dirB sl)) (hd:DirOk sl) (hsz:sl.length<=1104) :
  Spec Tryz.prog 158 #[.pointer (some ⟨s,0,none⟩),nI d,sv nm] [IN s a c p F0 Fm W true] fun G v M=>∃ mp es cl,v=.tuple #[.map (some mp),nI (64 * freeS sl),.int .i64 0]/\MapIs encK es cl (kvF sl sl.length)/\M=pt mp (.map es cl) :: IN s a c p F0 Fm W true :: G:=by
 refine Spec.intro Tryz.func158 rfl rfl fun B F=>?_
 simp only [Tryz.ntmps158,List.cons_append,List.nil_append,env0,Nat.reduceAdd]
 refine .sr (.assign (.assign (.assign (.z (.seq (.sr (.move ?_)))))))
 refine .call (hc:=Tryz.call89) (sp:=nReady (s:=s) (a:=a) (c:=c) (p:=p) (F0:=F0) (Fm:=Fm) (W:=W) (op:=true)) (h:=?_)
 rintro _ _ ⟨rfl,rfl⟩
 refine .not ?_
 refine .z ?_
 refine .condF rfl rfl ?_
 refine .skip (.next (.seq (.sr (.move ?_))))
 refine .call (hc:=Tryz.call181) (sp:=dName (xs:=nm)) (h:=?_)
 rintro _ _ ⟨rfl,rfl⟩
 rw [hn]
 refine .not ?_
 refine .z ?_
 refine .condF rfl rfl ?_
 refine .skip (.next (.sr (.move (.move ?_))))
 refine .call (hc:=Tryz.call182) (sp:=dNames (s:=s) (a:=a) (c:=c) (p:=p) (F0:=F0) (Fm:=Fm) (W:=W) (d:=d) (op:=true) ho hF hd hsz) (h:=?_)
 rintro _ _ ⟨mp,es,cl,rfl,hm,rfl⟩
 refine .extract ?_
 refine .extract ?_
 refine .extract ?_
 refine .assign (.assign (.assign (.z ?_)))
 refine .ret (?_)
 exact .ret3 (h1:=.tmp (t:=6) rfl) (h2:=.tmp (t:=7) rfl) (h3:=.tmp (t:=8) rfl) ⟨_,⟨mp,es,cl,rfl,hm,rfl⟩,Am.auto⟩
theorem dAdd {s a c:Nat} {p:Pl} {F0 Fm:FM} {W:Nat} {d:Nat} {nm:Bytes} {sl:List Slot} (ho:PlOk p) (hn:nameOk nm=true) (hF:Fm d=some (2,dirB sl)) (hd:DirOk sl) (hsz:sl.length<=1104) (hno:∀ (q i:Nat),sl[q]?≠some (some (nm,i))) {i:Nat} (hi:i < 4294967296) (hw:Rw p W 13) (hfs:freeS sl < 1104) (hfit:tot Fm p.ino+has (max (64 * sl.length) (64 * freeS sl+64))<=p.dc+has (64 * sl.length)):Spec Tryz.prog 110 #[.pointer (some ⟨s,0,none⟩),nI d,sv nm,nI i] [IN s a c p F0 Fm W true] fun G v M=>v=okV/\M=IN s a c p F0 (updM Fm d (some (2,dirB (setS sl (freeS sl) (some (nm,i)))))) (W+8) true :: G:=by
 refine Spec.intro Tryz.func110 rfl rfl fun B F=>?_
 simp only [Tryz.ntmps110,List.cons_append,List.nil_append,env0,Nat.reduceAdd]
 refine .sr (.assign (.x (.move (.move (.move ?_)))))
 refine .call (hc:=Tryz.call158) (sp:=dChg (s:=s) (a:=a) (c:=c) (p:=p) (F0:=F0) (Fm:=Fm) (W:=W) (d:=d) (nm:=nm) ho hn hF hd hsz) (h:=?_)
 rintro _ _ ⟨mp,es,cl,rfl,hm,rfl⟩
 refine .move ?_
 refine .extract ?_
 refine .extract ?_
 refine .extract ?_
 refine .assign (.assign (.assign (.z (.seq (.sr (.move ?_))))))
 refine .nei ?_
 refine .z ?_
 refine .condF rfl rfl ?_
 refine .skip (.next (.seq (.sr (.move (.move ?_)))))
 refine .call (hc:=Tryz.call159) (sp:=dOf (nameOk_len hn).2) (h:=?_)
 rintro _ _ ⟨rfl,rfl⟩
 refine .lookOk (k:=keyK nm) klN hm mp226 zv230 ?_
 refine .cast (d:=29) (u:=.tuple #[.agg #[.int .i64 0,.int .i64 0],.bool false]) rfl (by rw [kvF_no hd (nameOk_len hn).2 hno];rfl) ?_
 refine .move ?_
 refine .extract ?_
 refine .extract ?_
 refine .alloc z230 fun b12=>?_
 refine .stV ?_ agg230
 refine .assign (.x (.move (.z ?_)))
 refine .condF rfl rfl ?_
 refine .skip (.next (.sr (.move (.move (.move (.move (.move ?_)))))))
 refine .call (hc:=Tryz.call160) (sp:=dLay (s:=s) (a:=a) (c:=c) (p:=p) (F0:=F0) (Fm:=Fm) (W:=W) (d:=d) (q:=freeS sl) (i:=i) (nm:=nm) (sl:=sl) ho hF (freeS_le sl) hfs (nameOk_len hn).2 hi hw hfit) (h:=?_)
 rintro _ _ ⟨rfl,rfl⟩
 refine .assign (.z ?_)
 refine .ret (?_)
 exact .ret1 (h1:=.tmp (t:=8) rfl) ⟨_,⟨rfl,rfl⟩,Am.auto⟩
theorem dFindE {s a c:Nat} {p:Pl} {F0 Fm:FM} {W:Nat} {d:Int} {op:Bool} {nm:Bytes} {e:Int} (ho:PlOk p) (he:FindErr nm Fm d e) (he0:e≠0):Spec Tryz.prog 156 #[.pointer (some ⟨s,0,none⟩),.int .i64 d,sv nm] [IN s a c p F0 Fm W op] fun G v M=>v=.tuple #[.int .i64 0,.int .i64 e]/\M=IN s a c p F0 Fm W op :: G:=by
 refine Spec.intro Tryz.func156 rfl rfl fun B F=>?_
 simp only [Tryz.ntmps156,List.cons_append,List.nil_append,env0,Nat.reduceAdd]
 cases hn:nameOk nm
 ·have he1:e=1:=by
   rcases he with ⟨_,h⟩ | ⟨h,_⟩ | ⟨h,_⟩
   ·exact h
   ·rw [hn] at h;cases h
   ·rw [hn] at h;cases h
  subst he1
  refine .sr (.assign (.assign (.z (.seq (.sr (.move ?_))))))
  refine .call (hc:=Tryz.call181) (sp:=dName (xs:=nm)) (h:=?_)
  rintro _ _ ⟨rfl,rfl⟩
  rw [hn]
  refine .not ?_
  refine .z ?_
  refine .condT rfl rfl ?_
  refine .sr (.assign (.assign (.z ?_)))
  refine .ret (.thenRet (?_))
  exact .ret2 (h1:=.tmp (t:=6) rfl) (h2:=.tmp (t:=7) rfl) ⟨_,⟨rfl,rfl⟩,Am.auto⟩
 ·refine .sr (.assign (.assign (.z (.seq (.sr (.move ?_))))))
  refine .call (hc:=Tryz.call181) (sp:=dName (xs:=nm)) (h:=?_)
  rintro _ _ ⟨rfl,rfl⟩
  rw [hn]
  refine .not ?_
  refine .z ?_
  refine .condF rfl rfl ?_
  refine .skip (.next (.sr (.move (.move ?_))))
  refine .call (hc:=Tryz.call182) (sp:=dNamesErr (s:=s) (a:=a) (c:=c) (p:=p) (F0:=F0) (Fm:=Fm) (W:=W) (d:=d) (op:=op) ho hn he) (h:=?_)
  rintro _ _ ⟨rfl,rfl⟩
  refine .move ?_
  refine .extract ?_
  refine .extract ?_
  refine .extract ?_
  refine .assign (.assign (.assign (.z (.seq (.sr (.move ?_))))))
  refine .nei ?_
  refine .z ?_
  refine .condT rfl (congrArg Value.bool (by first|simp;done|simp;omega|omega)) ?_
  refine .sr (.move (.assign (.assign (.z ?_))))
  refine .ret (.thenRet (?_))
  exact .ret2 (h1:=.tmp (t:=6) rfl) (h2:=.tmp (t:=7) rfl) ⟨_,⟨rfl,rfl⟩,Am.auto⟩
theorem dFind {s a c:Nat} {p:Pl} {F0 Fm:FM} {W:Nat} {d:Nat} {op:Bool} {nm:Bytes} {sl:List Slot} (ho:PlOk p) (hn:nameOk nm=true) (hF:Fm d=some (2,dirB sl)) (hd:DirOk sl) (hsz:sl.length<=1104) {q j:Nat} (hq:sl[q]?=some (some (nm,j))):Spec Tryz.prog 156 #[.pointer (some ⟨s,0,none⟩),nI d,sv nm] [IN s a c p F0 Fm W op] fun G v M=>v=.tuple #[nI j,.int .i64 0]/\M=IN s a c p F0 Fm W op :: G:=by
 refine Spec.intro Tryz.func156 rfl rfl fun B F=>?_
 simp only [Tryz.ntmps156,List.cons_append,List.nil_append,env0,Nat.reduceAdd]
 have hlt:q < sl.length:=by
  by_cases h:q < sl.length
  ·exact h
  ·rw [List.getElem?_eq_none (by omega)] at hq;cases hq
 refine .sr (.assign (.assign (.z (.seq (.sr (.move ?_))))))
 refine .call (hc:=Tryz.call181) (sp:=dName (xs:=nm)) (h:=?_)
 rintro _ _ ⟨rfl,rfl⟩
 rw [hn]
 refine .not ?_
 refine .z ?_
 refine .condF rfl rfl ?_
 refine .skip (.next (.sr (.move (.move ?_))))
 refine .call (hc:=Tryz.call182) (sp:=dNames (s:=s) (a:=a) (c:=c) (p:=p) (F0:=F0) (Fm:=Fm) (W:=W) (d:=d) (op:=op) ho hF hd hsz) (h:=?_)
 rintro _ _ ⟨mp,es,cl,rfl,hm,rfl⟩
 refine .move ?_
 refine .extract ?_
 refine .extract ?_
 refine .extract ?_
 refine .assign (.assign (.assign (.z (.seq (.sr (.move ?_))))))
 refine .nei ?_
 refine .z ?_
 refine .condF rfl rfl ?_
 refine .skip (.next (.sr (.move (.move ?_))))
 refine .call (hc:=Tryz.call159) (sp:=dOf (nameOk_len hn).2) (h:=?_)
 rintro _ _ ⟨rfl,rfl⟩
 refine .lookOk (k:=keyK nm) klN hm mp226 zv230 ?_
 refine .cast (d:=30) (u:=.tuple #[.agg #[nI (64 * q),nI j],.bool true]) rfl (by rw [kvF_has hd hq sl.length hlt];rfl) ?_
 refine .move ?_
 refine .extract ?_
 refine .extract ?_
 refine .alloc z230 fun b11=>?_
 refine .stV ?_ agg230
 refine .assign (.z (.seq (.sr (.move ?_))))
 refine .not ?_
 refine .z ?_
 refine .condF rfl rfl ?_
 refine .skip (.next (.sr ?_))
 refine .fa ?_ fo230_1
 refine .ld ?_ sc3
 refine .assign (.assign (.z ?_))
 refine .ret (?_)
 exact .ret2 (h1:=.tmp (t:=6) rfl) (h2:=.tmp (t:=7) rfl) ⟨_,⟨rfl,rfl⟩,Am.auto⟩
theorem dFindNo {s a c:Nat} {p:Pl} {F0 Fm:FM} {W:Nat} {d:Nat} {op:Bool} {nm:Bytes} {sl:List Slot} (ho:PlOk p) (hn:nameOk nm=true) (hF:Fm d=some (2,dirB sl)) (hd:DirOk sl) (hsz:sl.length<=1104) (hno:∀ (q i:Nat),sl[q]?≠some (some (nm,i))):Spec Tryz.prog 156 #[.pointer (some ⟨s,0,none⟩),nI d,sv nm] [IN s a c p F0 Fm W op] fun G v M=>v=.tuple #[.int .i64 0,.int .i64 4]/\M=IN s a c p F0 Fm W op :: G:=by
 refine Spec.intro Tryz.func156 rfl rfl fun B F=>?_
 simp only [Tryz.ntmps156,List.cons_append,List.nil_append,env0,Nat.reduceAdd]
 refine .sr (.assign (.assign (.z (.seq (.sr (.move ?_))))))
 refine .call (hc:=Tryz.call181) (sp:=dName (xs:=nm)) (h:=?_)
 rintro _ _ ⟨rfl,rfl⟩
 rw [hn]
 refine .not ?_
 refine .z ?_
 refine .condF rfl rfl ?_
 refine .skip (.next (.sr (.move (.move ?_))))
 refine .call (hc:=Tryz.call182) (sp:=dNames (s:=s) (a:=a) (c:=c) (p:=p) (F0:=F0) (Fm:=Fm) (W:=W) (d:=d) (op:=op) ho hF hd hsz) (h:=?_)
 rintro _ _ ⟨mp,es,cl,rfl,hm,rfl⟩
 refine .move ?_
 refine .extract ?_
 refine .extract ?_
 refine .extract ?_
 refine .assign (.assign (.assign (.z (.seq (.sr (.move ?_))))))
 refine .nei ?_
 refine .z ?_
 refine .condF rfl rfl ?_
 refine .skip (.next (.sr (.move (.move ?_))))
 refine .call (hc:=Tryz.call159) (sp:=dOf (nameOk_len hn).2) (h:=?_)
 rintro _ _ ⟨rfl,rfl⟩
 refine .lookOk (k:=keyK nm) klN hm mp226 zv230 ?_
 refine .cast (d:=30) (u:=.tuple #[.agg #[.int .i64 0,.int .i64 0],.bool false]) rfl (by rw [kvF_no hd (nameOk_len hn).2 hno];rfl) ?_
 refine .move ?_
 refine .extract ?_
 refine .extract ?_
 refine .alloc z230 fun b11=>?_
 refine .stV ?_ agg230
 refine .assign (.z (.seq (.sr (.move ?_))))
 refine .not ?_
 refine .z ?_
 refine .condT rfl rfl ?_
 refine .sr (.assign (.assign (.z ?_)))
 refine .ret (.thenRet (?_))
 exact .ret2 (h1:=.tmp (t:=6) rfl) (h2:=.tmp (t:=7) rfl) ⟨_,⟨rfl,rfl⟩,Am.auto⟩
inductive NodeT
 | file (b:Bytes)
 | dir (sl:List Slot)
def NodeT.f :NodeT->Nat×Bytes
 | .file b=>(1,b)
 | .dir sl=>(2,dirB sl)
abbrev FT :=Nat->Option NodeT
def fmT (T:FT):FM:=fun i=>(T i).map NodeT.f
theorem fmT_some {T:FT} {i:Nat} {x:NodeT} (h:T i=some x):fmT T i=some x.f:=by unfold fmT;rw [h];rfl
theorem fmT_none {T:FT} {i:Nat} (h:T i=none):fmT T i=none:=by unfold fmT;rw [h];rfl
def updT (T:FT) (i:Nat) (y:Option NodeT):FT:=fun j=>if j=i then y else T j
theorem updT_other (T:FT) {i j:Nat} (y:Option NodeT) (h:j≠i):updT T i y j=T j:=if_neg h
theorem fmT_upd (T:FT) (i:Nat) (y:Option NodeT):updM (fmT T) i (y.map NodeT.f)=fmT (updT T i y):=by
 funext j
 unfold updM fmT updT
 by_cases h:j=i
 ·rw [if_pos h,if_pos h]
 ·rw [if_neg h,if_neg h]
theorem fmT_updS (T:FT) (i:Nat) (x:NodeT):updM (fmT T) i (some x.f)=fmT (updT T i (some x)):=fmT_upd T i (some x)
def TOk (T:FT):Prop:=∀ d sl,T d=some (.dir sl)->DirOk sl/\sl.length<=1000
def lookS (nm:Bytes):List Slot->Option (Nat×Nat)
 | []=>none
 | some (n,i) :: r=>if n=nm then some (0,i) else (lookS nm r).map fun x=>(x.1+1,x.2)
 | none :: r=>(lookS nm r).map fun x=>(x.1+1,x.2)
theorem lookS_some {nm:Bytes}:∀ {sl:List Slot} {q i:Nat},lookS nm sl=some (q,i)->sl[q]?=some (some (nm,i))
 | some (n,j) :: r,q,i,h=>by
  unfold lookS at h
  split at h
  ·rename_i hn
   subst hn
   injection h with h
   injection h with h1 h2
   subst h1;subst h2
   rfl
  ·obtain ⟨x,hx,h⟩:=Option.map_eq_some_iff.1 h
   injection h with h1 h2
   subst h1;subst h2
   rw [List.getElem?_cons_succ]
   exact lookS_some hx
 | none :: r,q,i,h=>by
  unfold lookS at h
  obtain ⟨x,hx,h⟩:=Option.map_eq_some_iff.1 h
  injection h with h1 h2
  subst h1;subst h2
  rw [List.getElem?_cons_succ]
  exact lookS_some hx
theorem lookS_none {nm:Bytes}:∀ {sl:List Slot},lookS nm sl=none->∀ (q i:Nat),sl[q]?≠some (some (nm,i))
 | [],_,q,i=>by simp
 | some (n,j) :: r,h,q,i=>by
  unfold lookS at h
  split at h
  ·cases h
  ·rename_i hn
   cases q with
   | zero=>intro h2;injection h2 with h2;injection h2 with h2;injection h2 with h2 _;exact hn h2
   | succ q =>
    rw [List.getElem?_cons_succ]
    exact lookS_none (Option.map_eq_none_iff.1 h) q i
 | none :: r,h,q,i=>by
  unfold lookS at h
  cases q with
  | zero=>intro h2;injection h2 with h2;cases h2
  | succ q =>
   rw [List.getElem?_cons_succ]
   exact lookS_none (Option.map_eq_none_iff.1 h) q i
def findT (T:FT) (d:Nat) (nm:Bytes):Nat×Nat :=
 if nameOk nm then
  match T d with
  | none=>(0,4)
  | some (.file _)=>(0,6)
  | some (.dir sl)=>match lookS nm sl with
   | some (_,i)=>(i,0)
   | none=>(0,4)
 else (0,1)
theorem findT_ok {T:FT} {d i:Nat} {nm:Bytes} (h:findT T d nm=(i,0)):nameOk nm=true/\∃ sl q,T d=some (.dir sl)/\lookS nm sl=some (q,i):=by
 unfold findT at h
 split at h
 ·rename_i hn
  refine ⟨hn,?_⟩
  split at h
  ·cases h
  ·cases h
  ·rename_i sl hT
   split at h
   ·rename_i q j hl
    injection h with h _
    subst h
    exact ⟨sl,q,hT,hl⟩
   ·cases h
 ·cases h
theorem findT_err {T:FT} {d i e:Nat} {nm:Bytes} (h:findT T d nm=(i,e)) (he:e≠0):i=0/\(FindErr nm (fmT T) (d:Int) (e:Int) ∨ (nameOk nm=true/\e=4/\∃ sl,T d=some (.dir sl)/\lookS nm sl=none)):=by
 unfold findT at h
 split at h
 ·rename_i hn
  split at h
  ·rename_i hT
   injection h with h1 h2
   subst h1;subst h2
   exact ⟨rfl,.inl (.inr (.inl ⟨hn,by rw [fileAt_nat];exact fmT_none hT,rfl⟩))⟩
  ·rename_i b hT
   injection h with h1 h2
   subst h1;subst h2
   exact ⟨rfl,.inl (.inr (.inr ⟨hn,⟨1,b,by omega,by rw [Int.toNat_natCast];exact fmT_some hT,by decide⟩,rfl⟩))⟩
  ·rename_i sl hT
   split at h
   ·injection h with _ h
    exact absurd h.symm he
   ·rename_i hl
    injection h with h1 h2
    subst h1;subst h2
    exact ⟨rfl,.inr ⟨hn,rfl,sl,hT,hl⟩⟩
 ·rename_i hn
  injection h with h1 h2
  subst h1;subst h2
  exact ⟨rfl,.inl (.inl ⟨by simpa using hn,rfl⟩)⟩
def walkT (T:FT):Nat->List Bytes->Nat×Nat
 | d,[]=>(d,0)
 | d,nm :: r=>if (findT T d nm).2=0 then walkT T (findT T d nm).1 r else (0,(findT T d nm).2)
def splitSl :Bytes->List Bytes
 | []=>[[]]
 | x :: xs=>if x=47 then [] :: splitSl xs else match splitSl xs with
  | []=>[[x]]
  | y :: ys=>(x :: y) :: ys
theorem splitSl_ne (xs:Bytes):splitSl xs≠[]:=by
 cases xs with
 | nil=>simp [splitSl]
 | cons x xs =>
  unfold splitSl
  split
  ·simp
  ·split<;>simp
def partsT (path:Bytes):Option (List Bytes) :=
 match path with
 | []=>none
 | x :: rest=>if x=47 then (if rest=[] then some [] else if 8 < (splitSl rest).length then none else if (splitSl rest).all nameOk then some (splitSl rest) else none) else none
def parentT (T:FT) (path:Bytes):Nat×Bytes×Nat :=
 match partsT path with
 | none=>(0,[],1)
 | some l=>if l=[] then (0,[],1) else if (walkT T 0 l.dropLast).2=0 then (match T (walkT T 0 l.dropLast).1 with
  | some (.dir _)=>((walkT T 0 l.dropLast).1,l.getLastD [],0)
  | _=>(0,[],6)) else (0,[],(walkT T 0 l.dropLast).2)
def NodeT.size :NodeT->Nat
 | .file b=>b.length
 | .dir sl=>64 * sl.length
def NodeT.kind :NodeT->Nat
 | .file _=>1
 | .dir _=>2
theorem NodeT.f_kind (x:NodeT):x.f.1=x.kind:=by cases x<;>rfl
theorem NodeT.f_size (x:NodeT):x.f.2.length=x.size:=by
 cases x with
 | file b=>rfl
 | dir sl=>exact dirB_length sl
def leadsT (T:FT) (path:Bytes):Nat×Nat×Nat×Nat :=
 match partsT path with
 | none=>(0,0,0,1)
 | some l=>if (walkT T 0 l).2=0 then (match T (walkT T 0 l).1 with
  | some x=>((walkT T 0 l).1,x.kind,x.size,0)
  | none=>((walkT T 0 l).1,0,0,4)) else (0,0,0,(walkT T 0 l).2)
def fileT (T:FT) (path:Bytes):Nat×Nat×Nat×Nat :=
 if (leadsT T path).2.2.2=0/\(leadsT T path).2.1≠1 then (0,0,0,6) else leadsT T path
def rootT :FT:=fun i=>if i=0 then some (.dir []) else none
theorem fmT_root :fmT rootT=rootM:=by
 funext i
 unfold fmT rootT rootM
 by_cases h:i=0
 ·rw [if_pos h,if_pos h];rfl
 ·rw [if_neg h,if_neg h];rfl
theorem rootT_ok :TOk rootT:=by
 intro d sl h
 unfold rootT at h
 split at h
 ·injection h with h;injection h with h;subst h;exact ⟨DirOk.nil,Nat.zero_le _⟩
 ·cases h
theorem so216 :sliceOk Tryz.prog 216 9 1 16=true:=by kernel_rfl
theorem sc9 :scalarOk Tryz.prog 9=true:=by kernel_rfl
theorem z9 :zeroOf Tryz.prog 9=some (#[.string ⟨#[]⟩]):=by kernel_rfl
theorem sl216 :Tryz.prog.underlying 216=some (.slice 9):=by kernel_rfl
theorem countX (xs:Bytes) (c:Int) (w:World):(callFunc 224 #[sv xs,.int .u8 c]).run Tryz.prog w=.ok (.value (.int .i64 (Lib.countByte xs c.toNat.toUInt8))) w:=by
 rw [run_callFunc_extern Tryz.func224 (by kernel_rfl) (by kernel_rfl) (by kernel_rfl) (e:=Extern.BytealgCount.count) (by kernel_rfl),sv_bstr,Lib.run_countString]
 rfl
theorem splitSl_len (xs:Bytes):(splitSl xs).length=Lib.countByte xs 47+1:=by
 unfold Lib.countByte
 induction xs with
 | nil=>rfl
 | cons x xs ih =>
  unfold splitSl
  by_cases h:x=47
  ·subst h
   rw [if_pos rfl,List.length_cons,ih,List.count_cons_self]
  ·rw [if_neg h,List.count_cons_of_ne (by simpa using h)]
   cases hs:splitSl xs with
   | nil=>exact absurd hs (splitSl_ne xs)
   | cons y ys=>rw [hs] at ih;simpa using ih
theorem splitSl_none {xs:Bytes} (h:∀ k:Nat,xs[k]?≠some 47):splitSl xs=[xs]:=by
 induction xs with
 | nil=>rfl
 | cons x xs ih =>
  have hx:x≠47:=fun hx=>h 0 (by rw [hx];rfl)
  have ih:=ih (fun k=>by have:=h (k+1);simpa using this)
  unfold splitSl
  rw [if_neg hx,ih]
theorem splitSl_step {xs:Bytes}:∀ {m:Nat},xs[m]?=some 47->(∀ k:Nat,k < m->xs[k]?≠some 47)->splitSl xs=xs.take m :: splitSl (xs.drop (m+1)):=by
 induction xs with
 | nil=>intro m h;simp at h
 | cons x xs ih =>
  intro m h hb
  cases m with
  | zero =>
   have hx:x=47:=by simpa using h
   rw [splitSl,if_pos hx];rfl
  | succ m =>
   have hx:x≠47:=fun hx=>hb 0 (by omega) (by rw [hx];rfl)
   have ih:=ih (m:=m) (by simpa using h) (fun k hk=>by have:=hb (k+1) (by omega);simpa using this)
   rw [splitSl,if_neg hx,ih]
   rfl
theorem hasPre {xs ps:Bytes}:Spec Tryz.prog 216 #[sv xs,sv ps] [] fun F v M=>v=.bool (decide (xs.take ps.length=ps))/\M=F:=by
 refine Spec.intro Tryz.func216 rfl rfl fun B F=>?_
 simp only [Tryz.ntmps216,List.cons_append,List.nil_append,env0,Nat.reduceAdd]
 by_cases hl:ps.length<=xs.length
 ·refine .sr (.assign (.x (.move ?_)))
  refine .lenT _ ?_ st9
  refine .move ?_
  refine .lenT _ ?_ st9
  refine .geq ?_
  refine .cast (d:=9) (u:=.bool true) rfl (congrArg Value.bool (by simp only [ge_iff_le,decide_eq_true_eq];omega)) ?_
  refine .move ?_
  refine .gT ?_
  refine .move ?_
  refine .gT ?_
  refine .move ?_
  refine .gT ?_
  refine .lenT _ ?_ st9
  refine .gT ?_
  refine .subTH xs ?_ st9
  refine .gT ?_
  refine .move ?_
  refine .gT ?_
  refine .eqS (xs.take ps.length) ps ?_
  refine .pickT ?_
  refine .assign (.z ?_)
  refine .ret (?_)
  exact .ret1 (h1:=.tmp (t:=4) rfl) ⟨_,⟨rfl,rfl⟩,Am.auto⟩
 ·refine .sr (.assign (.x (.move ?_)))
  refine .lenT _ ?_ st9
  refine .move ?_
  refine .lenT _ ?_ st9
  refine .geq ?_
  refine .cast (d:=9) (u:=.bool false) rfl (congrArg Value.bool (by simp only [ge_iff_le,decide_eq_false_iff_not];omega)) ?_
  refine .move ?_
  refine .gF ?_
  refine .gF ?_
  refine .gF ?_
  refine .gF ?_
  refine .gF ?_
  refine .gF ?_
  refine .pickF ?_
  refine .assign (.z ?_)
  refine .ret (?_)
  have hne:¬ xs.take ps.length=ps:=fun h=>by have:=congrArg List.length h;rw [List.length_take] at this;omega
  exact .ret1 (h1:=.tmp (t:=4) rfl) ⟨_,⟨congrArg Value.bool (decide_eq_false hne).symm,rfl⟩,Am.auto⟩
theorem cutPreL {xs ps:Bytes}:Spec Tryz.prog 205 #[sv xs,sv ps] [] fun F v M=>v=.tuple #[sv (if xs.take ps.length=ps then xs.drop ps.length else xs),.bool (decide (xs.take ps.length=ps))]/\M=F:=by
 refine Spec.intro Tryz.func205 rfl rfl fun B F=>?_
 simp only [Tryz.ntmps205,List.cons_append,List.nil_append,env0,Nat.reduceAdd]
 by_cases hp:xs.take ps.length=ps
 ·have hl:ps.length<=xs.length:=by have:=congrArg List.length hp;rw [List.length_take] at this;omega
  refine .sr (.assign (.assign (.z (.seq (.sr (.move (.move ?_)))))))
  refine .call (hc:=Tryz.call216) (sp:=hasPre) (h:=?_)
  rintro _ _ ⟨rfl,rfl⟩
  refine .cast (d:=8) (u:=.bool true) rfl (congrArg Value.bool (decide_eq_true hp)) ?_
  refine .not ?_
  refine .z ?_
  refine .condF rfl rfl ?_
  refine .skip (.next (.sr (.move (.move ?_))))
  refine .lenT _ ?_ st9
  refine .subT xs ?_ st9
  refine .assign (.assign (.z ?_))
  refine .ret (?_)
  exact .ret2 (h1:=.tmp (t:=4) rfl) (h2:=.tmp (t:=5) rfl) ⟨_,⟨by rw [if_pos hp,decide_eq_true hp];rfl,rfl⟩,Am.auto⟩
 ·refine .sr (.assign (.assign (.z (.seq (.sr (.move (.move ?_)))))))
  refine .call (hc:=Tryz.call216) (sp:=hasPre) (h:=?_)
  rintro _ _ ⟨rfl,rfl⟩
  refine .cast (d:=8) (u:=.bool false) rfl (congrArg Value.bool (decide_eq_false hp)) ?_
  refine .not ?_
  refine .z ?_
  refine .condT rfl rfl ?_
  refine .sr (.move (.assign (.assign (.z ?_))))
  refine .ret (.thenRet (?_))
  exact .ret2 (h1:=.tmp (t:=4) rfl) (h2:=.tmp (t:=5) rfl) ⟨_,⟨by rw [if_neg hp,decide_eq_false hp],rfl⟩,Am.auto⟩
theorem cutPre {xs ps:Bytes}:Spec Tryz.prog 179 #[sv xs,sv ps] [] fun F v M=>v=.tuple #[sv (if xs.take ps.length=ps then xs.drop ps.length else xs),.bool (decide (xs.take ps.length=ps))]/\M=F:=by
 refine Spec.intro Tryz.func179 rfl rfl fun B F=>?_
 simp only [Tryz.ntmps179,List.cons_append,List.nil_append,env0,Nat.reduceAdd]
 refine .sr (.assign (.assign (.x (.move (.move ?_)))))
 refine .call (hc:=Tryz.call205) (sp:=cutPreL) (h:=?_)
 rintro _ _ ⟨rfl,rfl⟩
 refine .extract ?_
 refine .extract ?_
 refine .assign (.assign (.z ?_))
 refine .ret (?_)
 exact .ret2 (h1:=.tmp (t:=4) rfl) (h2:=.tmp (t:=5) rfl) ⟨_,⟨rfl,rfl⟩,Am.auto⟩
theorem countSl {xs:Bytes}:Spec Tryz.prog 218 #[sv xs,sv [47]] [] fun F v M=>v=.int .i64 ((Lib.countByte xs 47:Nat):Int)/\M=F:=by
 refine Spec.intro Tryz.func218 rfl rfl fun B F=>?_
 simp only [Tryz.ntmps218,List.cons_append,List.nil_append,env0,Nat.reduceAdd]
 refine .sr (.assign (.z (.seq (.sr (.move ?_)))))
 refine .lenT _ ?_ st9
 refine .eqi ?_
 refine .z ?_
 refine .condF rfl rfl ?_
 refine .skip (.next (.seq (.sr (.move ?_))))
 refine .lenT _ ?_ st9
 refine .eqi ?_
 refine .z ?_
 refine .condT rfl rfl ?_
 refine .sr (.move (.move ?_))
 refine .ixT (p:=0) (v:=47) [47] ?_ st9 rfl
 refine .callX (hc:=countX xs ((47:UInt8).toNat:Int)) (h:=?_)
 refine .assign (.z ?_)
 refine .ret (.thenRet (?_))
 exact .ret1 (h1:=.tmp (t:=4) rfl) ⟨_,⟨rfl,rfl⟩,Am.auto⟩
theorem indexSlL {xs:Bytes}:Spec Tryz.prog 225 #[sv xs,sv [47]] [] fun F v M=>v=.int .i64 (Lib.indexByte xs 47)/\M=F:=by
 refine Spec.intro Tryz.func225 rfl rfl fun B F=>?_
 simp only [Tryz.ntmps225,List.cons_append,List.nil_append,env0,Nat.reduceAdd]
 by_cases hx:[47]=xs
 ·refine .sr (.assign (.x (.move ?_)))
  refine .lenT _ ?_ st9
  refine .assign (.z (.seq (.block (.sr (.move ?_)))))
  refine .eqi ?_
  refine .move ?_
  refine .gT ?_
  refine .move ?_
  refine .gT ?_
  refine .move ?_
  refine .gT ?_
  refine .eqS [47] xs ?_
  refine .cast (d:=22) (u:=.bool true) rfl (congrArg Value.bool (decide_eq_true hx)) ?_
  refine .pickF ?_
  refine .assign (.z ?_)
  refine .condT rfl rfl ?_
  refine .sr (.assign (.z ?_))
  refine .ret (.blockRet (.thenRet (?_)))
  subst hx
  exact .ret1 (h1:=.tmp (t:=4) rfl) ⟨_,⟨rfl,rfl⟩,Am.auto⟩
 ·refine .sr (.assign (.x (.move ?_)))
  refine .lenT _ ?_ st9
  refine .assign (.z (.seq (.block (.sr (.move ?_)))))
  refine .eqi ?_
  refine .move ?_
  refine .gT ?_
  refine .move ?_
  refine .gT ?_
  refine .move ?_
  refine .gT ?_
  refine .eqS [47] xs ?_
  refine .cast (d:=22) (u:=.bool false) rfl (congrArg Value.bool (decide_eq_false hx)) ?_
  refine .pickF ?_
  refine .assign (.z ?_)
  refine .condF rfl rfl ?_
  refine .sr (.move ?_)
  refine .eqi ?_
  refine .assign (.z ?_)
  refine .condT rfl rfl ?_
  refine .sr (.move (.move ?_))
  refine .ixT (p:=0) (v:=47) [47] ?_ st9 rfl
  refine .call (hc:=Tryz.call231) (sp:=idxByteL (xs:=xs) (c:=((47:UInt8).toNat:Int))) (h:=?_)
  rintro _ _ ⟨rfl,rfl⟩
  refine .assign (.z ?_)
  refine .ret (.blockRet (.thenRet (?_)))
  exact .ret1 (h1:=.tmp (t:=4) rfl) ⟨_,⟨rfl,rfl⟩,Am.auto⟩
theorem indexSl {xs:Bytes}:Spec Tryz.prog 219 #[sv xs,sv [47]] [] fun F v M=>v=.int .i64 (Lib.indexByte xs 47)/\M=F:=by
 refine Spec.intro Tryz.func219 rfl rfl fun B F=>?_
 simp only [Tryz.ntmps219,List.cons_append,List.nil_append,env0,Nat.reduceAdd]
 refine .sr (.assign (.x (.move (.move ?_))))
 refine .call (hc:=Tryz.call225) (sp:=indexSlL) (h:=?_)
 rintro _ _ ⟨rfl,rfl⟩
 refine .assign (.z ?_)
 refine .ret (?_)
 exact .ret1 (h1:=.tmp (t:=4) rfl) ⟨_,⟨rfl,rfl⟩,Am.auto⟩
def svs (l:List Bytes):List Value:=l.map sv
theorem svs_length (l:List Bytes):(svs l).length=l.length:=List.length_map ..
theorem svs_get {l:List Bytes} {i:Nat} (h:i < l.length):(svs l)[i]?=some (sv l[i]):=by simp [svs,h]
structure SpI (xs:Bytes) (i:Nat) (dn:List Bytes) (rest:Bytes):Prop where
 len:dn.length=i
 all:splitSl xs=dn++splitSl rest
 le:rest.length<=xs.length
theorem svs_set (dn:List Bytes) (k:Nat) (x:Bytes) (hk:0 < k):(svs dn++List.replicate k (sv [])).set dn.length (sv x)=svs (dn++[x])++List.replicate (k - 1) (sv []):=by
 obtain ⟨k,rfl⟩:∃ k',k=k'+1:=⟨k - 1,by omega⟩
 rw [List.set_append_right _ _ (by rw [svs_length];exact Nat.le_refl _),svs_length,Nat.sub_self,List.replicate_succ]
 unfold svs
 rw [List.map_append,List.append_assoc]
 rfl
theorem genSplitSl {xs:Bytes} (hl:xs.length<=1000000):Spec Tryz.prog 206 #[sv xs,sv [47],.int .i64 0,.int .i64 (-1)] [] fun F v M=>∃ u,v=u/\M=rowR 9 1 u (splitSl xs).length (svs (splitSl xs)) :: F:=by
 refine Spec.intro Tryz.func206 rfl rfl fun B F=>?_
 simp only [Tryz.ntmps206,List.cons_append,List.nil_append,env0,Nat.reduceAdd]
 obtain ⟨N,hN⟩:∃ N,(splitSl xs).length=N:=⟨_,rfl⟩
 have hcl:=splitSl_len xs
 have hcx:Lib.countByte xs 47<=xs.length:=List.count_le_length
 refine .sr (.assign (.z (.seq (.sr (.move ?_)))))
 refine .eqi ?_
 refine .z ?_
 refine .condF rfl rfl ?_
 refine .skip (.next (.seq (.sr (.move ?_))))
 refine .eqS [47] [] ?_
 refine .cast (d:=15) (u:=.bool false) rfl rfl ?_
 refine .z ?_
 refine .condF rfl rfl ?_
 refine .skip (.next (.seq (.sr (.move ?_))))
 refine .lss ?_
 refine .z ?_
 refine .condT rfl rfl ?_
 refine .region (.move (.move ?_))
 refine .call (hc:=Tryz.call218) (sp:=countSl) (h:=?_)
 rintro _ _ ⟨rfl,hM⟩
 obtain rfl:=hM.symm
 refine .add ?_
 refine .cast (d:=24) (u:=.int .i64 (N:Int)) rfl (congrArg (Value.int .i64) (by omega)) ?_
 refine .assign (.x (.move (.move ?_)))
 refine .lenT _ ?_ st9
 refine .add ?_
 refine .minI ?_
 refine .cast (d:=29) (u:=.int .i64 (N:Int)) rfl (congrArg (Value.int .i64) (by split<;>omega)) ?_
 refine .assign (.x (.move ?_))
 refine .mkS (k:=(N:Int)) z9 (fun b31=>?_) so216 (by omega) (by omega) (by omega)
 refine .cast (d:=31) (u:=.slice (some ⟨b31,0,none⟩) N N) rfl (by rw [Int.toNat_natCast]) ?_
 refine .assign (.x (.move ?_))
 refine .sub ?_
 refine .assign (.x (.assign (.z (.seq (.block ?_)))))
 simp only [Int.toNat_natCast]
 refine .to (A:=buf b31 9 N (List.replicate N (.string ⟨#[]⟩))) (A':=buf b31 9 N (svs []++List.replicate (N - 0) (sv []))) (fun h hh=>hh) ?_
 refine .loopA (σ:=Nat×List Bytes×Bytes) (fun y=>[(0,sv y.2.2),(1,sv [47]),(2,.int .i64 0),(3,.int .i64 ((N:Int) - 1)),(9,.slice (some ⟨b31,0,none⟩) N N),(10,.int .i64 ((y.1:Nat):Int))]) (fun y=>buf b31 9 N (svs y.2.1++List.replicate (N - y.1) (sv [])) :: F) (fun y=>SpI xs y.1 y.2.1 y.2.2/\y.1 < N) (fun y=>N - y.1) (0,[],xs) ⟨⟨rfl,rfl,Nat.le_refl _⟩,by show 0 < N;omega⟩ ?_
 rintro y hy
 obtain ⟨i,dn,rest⟩:=y
 obtain ⟨hy,hiN⟩:=hy
 simp only at hy hiN ⊢
 have hdl:=hy.len
 refine .seq (.sr (.move (.move ?_)))
 refine .lss ?_
 refine .z ?_
 refine .cond rfl (fun hb=>?_) (fun hb=>?_)
 ·have hlt:i+1 < N:=by have h:(i:Int) < (N:Int) - 1:=of_decide_eq_true hb;omega
  have h47l:([47]:Bytes).length=1:=rfl
  have hrl:=splitSl_len rest
  have hal:=congrArg List.length hy.all
  rw [List.length_append,hN,hrl,hdl] at hal
  have hge:=Lib.indexByte_ge rest 47
  have hne:Lib.indexByte rest 47≠-1:=fun h=>by
   have h1:=Lib.indexByte_none h
   have h2:=splitSl_none h1
   rw [h2] at hrl
   simp only [List.length_cons,List.length_nil] at hrl
   omega
  obtain ⟨m,hm⟩:∃ m:Nat,Lib.indexByte rest 47=(m:Int):=⟨(Lib.indexByte rest 47).toNat,by omega⟩
  obtain ⟨h47,hbf⟩:=Lib.indexByte_some hm
  have hml:m < rest.length:=by
   by_cases h:m < rest.length
   ·exact h
   ·rw [List.getElem?_eq_none (by omega)] at h47;cases h47
  have hst:=splitSl_step h47 hbf
  have hle:=hy.le
  refine .skip (.next (.block (.sr (.move (.move ?_)))))
  refine .call (hc:=Tryz.call219) (sp:=indexSl) (h:=?_)
  rintro _ _ ⟨rfl,rfl⟩
  rw [hm]
  refine .assign (.z (.seq (.sr (.move ?_))))
  refine .lss ?_
  refine .z ?_
  refine .condF rfl (congrArg Value.bool (by first|simp;done|simp;omega|omega)) ?_
  refine .skip (.next (.sr (.move (.move (.move (.move (.move ?_)))))))
  refine .add ?_
  refine .cast (d:=47) (u:=.int .i64 (m:Int)) rfl (congrArg (Value.int .i64) (by omega)) ?_
  refine .subTH rest ?_ st9
  refine .idx1 ?_ so216
  refine .stB (i:=0+((i:Nat):Int).toNat) (xs:=svs dn++List.replicate (N - i) (sv [])) ?_ sc9 (by rw [List.length_append,svs_length,List.length_replicate];omega)
  refine .to (A:=buf b31 9 N ((svs dn++List.replicate (N - i) (sv [])).set (0+((i:Nat):Int).toNat) (sv (rest.take ((m:Nat):Int).toNat)))) (A':=buf b31 9 N (svs (dn++[rest.take m])++List.replicate (N - (i+1)) (sv []))) (fun h hh=>by rw [show 0+((i:Nat):Int).toNat=dn.length from by omega,Int.toNat_natCast,svs_set _ _ _ (by omega),show N - i - 1=N - (i+1) from by omega] at hh;exact hh) ?_
  refine .x (.move (.move (.move ?_)))
  refine .lenT _ ?_ st9
  refine .add ?_
  refine .subT rest ?_ st9
  refine .cast (d:=55) (u:=sv (rest.drop (m+1))) rfl (congrArg sv (congrArg (fun k=>rest.drop k) (by show ((m:Int)+1).toNat=m+1;omega))) ?_
  refine .assign (.y (.move ?_))
  refine .add ?_
  refine .assign (.nil (.blockNormal ?_))
  refine .cast (d:=10) (u:=.int .i64 ((i+1:Nat):Int)) rfl (congrArg (Value.int .i64) (by omega)) ?_
  exact .back (i+1,dn++[rest.take m],rest.drop (m+1)) ⟨⟨by rw [List.length_append,hdl];rfl,by rw [hy.all,hst,List.append_assoc];rfl,by rw [List.length_drop];omega⟩,by show i+1 < N;omega⟩ (by show N - (i+1) < N - i;omega)
 ·have hge:¬ i+1 < N:=by have h:¬ (i:Int) < (N:Int) - 1:=of_decide_eq_false hb;omega
  have hal:=congrArg List.length hy.all
  rw [List.length_append,hN,hdl] at hal
  have hone:splitSl rest=[rest]:=by
   refine splitSl_none fun k hk=>?_
   have h1:=splitSl_len rest
   have h2:0 < Lib.countByte rest 47:=List.count_pos_iff.2 (List.mem_of_getElem? hk)
   omega
  refine .exit (.thenExit (.thenExit (.blockExit (?_))))
  refine .next (.sr (.move (.move (.move ?_))))
  refine .idx1 ?_ so216
  refine .stB (i:=0+((i:Nat):Int).toNat) (xs:=svs dn++List.replicate (N - i) (sv [])) ?_ sc9 (by rw [List.length_append,svs_length,List.length_replicate];omega)
  refine .to (A:=buf b31 9 N ((svs dn++List.replicate (N - i) (sv [])).set (0+((i:Nat):Int).toNat) (sv rest))) (A':=rowR 9 1 (.slice (some ⟨b31,0,none⟩) (splitSl xs).length N) (splitSl xs).length (svs (splitSl xs))) (fun h hh=>by rw [show 0+((i:Nat):Int).toNat=dn.length from by omega,svs_set _ _ _ (by omega),show N - i - 1=0 from by omega,List.replicate_zero,List.append_nil,<-hone,<-hy.all] at hh;have:=rowR_of_buf (by unfold maxLen;omega) h hh;rwa [svs_length] at this) ?_
  refine .x (.move (.move ?_))
  refine .add ?_
  refine .slcH ?_ so216
  refine .cast (d:=65) (u:=.slice (some ⟨b31,0,none⟩) (splitSl xs).length N) rfl (by rw [show ((i:Int)+1).toNat=(splitSl xs).length from by omega]) ?_
  refine .assign (.z ?_)
  refine .ret (?_)
  exact .ret1 (h1:=.tmp (t:=8) rfl) ⟨_,⟨_,rfl,rfl⟩,Am.auto⟩
theorem splitSlS {xs:Bytes} (hl:xs.length<=1000000):Spec Tryz.prog 180 #[sv xs,sv [47]] [] fun F v M=>∃ u,v=u/\M=rowR 9 1 u (splitSl xs).length (svs (splitSl xs)) :: F:=by
 refine Spec.intro Tryz.func180 rfl rfl fun B F=>?_
 simp only [Tryz.ntmps180,List.cons_append,List.nil_append,env0,Nat.reduceAdd]
 refine .sr (.assign (.x (.move (.move ?_))))
 refine .call (hc:=Tryz.call206) (sp:=genSplitSl hl) (h:=?_)
 rintro _ _ ⟨u,hu0,rfl⟩
 rw [hu0]
 clear hu0
 refine .assign (.z ?_)
 refine .ret (?_)
 exact .ret1 (h1:=.tmp (t:=4) rfl) ⟨_,⟨_,rfl,rfl⟩,Am.auto⟩
theorem fsPartsA {path:Bytes} (hl:path.length<=1000000):Spec Tryz.prog 153 #[sv path] [] fun F v M=>(∃ l u,partsT path=some l/\v=.tuple #[u,.int .i64 0]/\M=rowR 9 1 u l.length (svs l) :: F) ∨ (partsT path=none/\v=.tuple #[.slice none 0 0,.int .i64 1]/\M=F):=by
 refine Spec.intro Tryz.func153 rfl rfl fun B F=>?_
 simp only [Tryz.ntmps153,List.cons_append,List.nil_append,env0,Nat.reduceAdd]
 by_cases h1:path=[47]
 ·refine .sr (.assign (.assign (.z (.scope (.seq (.sr (.move ?_)))))))
  refine .eqS path [47] ?_
  refine .cast (d:=10) (u:=.bool true) rfl (congrArg Value.bool (decide_eq_true h1)) ?_
  refine .z ?_
  refine .condT rfl rfl ?_
  refine .sr (.assign ?_)
  refine .emp (rowR.nil (e:=9) (size:=1) _) ?_
  refine .assign (.z ?_)
  refine .ret (.thenRet (.scopeRet (?_)))
  exact .ret2 (h1:=.tmp (t:=2) rfl) (h2:=.tmp (t:=3) rfl) ⟨_,.inl ⟨[],.slice none 0 0,by rw [h1];rfl,rfl,rfl⟩,Am.auto⟩
 ·by_cases h2:path.take ([47]:Bytes).length=[47]
  ·obtain ⟨rest,rfl⟩:∃ rest,path=47 :: rest:=by
    cases path with
    | nil=>cases h2
    | cons x r =>
     have hx:x=47:=by
      have h2:[x]=[47]:=h2
      injection h2
     exact ⟨r,by rw [hx]⟩
   have hne:rest≠[]:=fun h=>h1 (by rw [h])
   have hrl:rest.length<=1000000:=by rw [List.length_cons] at hl;omega
   obtain ⟨l,hsl⟩:∃ l,splitSl rest=l:=⟨_,rfl⟩
   have hpt:partsT (47 :: rest)=if 8 < l.length then none else if l.all nameOk then some l else none:=by
    show (if (47:UInt8)=47 then (if rest=[] then some [] else if 8 < (splitSl rest).length then none else if (splitSl rest).all nameOk then some (splitSl rest) else none) else none)=_
    rw [if_pos rfl,if_neg hne,hsl]
   by_cases h8:8 < l.length
   ·refine .sr (.assign (.assign (.z (.scope (.seq (.sr (.move ?_)))))))
    refine .eqS (47 :: rest) [47] ?_
    refine .cast (d:=10) (u:=.bool false) rfl (congrArg Value.bool (decide_eq_false h1)) ?_
    refine .z ?_
    refine .condF rfl rfl ?_
    refine .skip (.next (.sr (.move ?_)))
    refine .call (hc:=Tryz.call179) (sp:=cutPre (xs:=47 :: rest) (ps:=[47])) (h:=?_)
    rintro _ _ ⟨rfl,hM⟩
    obtain rfl:=hM.symm
    rw [if_pos h2,decide_eq_true h2,show (47 :: rest).drop ([47]:Bytes).length=rest from rfl]
    refine .move ?_
    refine .extract ?_
    refine .extract ?_
    refine .assign (.assign (.z (.seq (.sr (.move ?_)))))
    refine .not ?_
    refine .z ?_
    refine .condF rfl rfl ?_
    refine .skip (.next (.sr (.move ?_)))
    refine .call (hc:=Tryz.call180) (sp:=splitSlS hrl) (h:=?_)
    rintro _ _ ⟨u,hu0,rfl⟩
    rw [hu0]
    clear hu0
    refine .fact (rowR_shape (el:=9) (size:=1) (v:=u) (k:=(splitSl rest).length) (xs:=svs (splitSl rest))) (fun ⟨A,cc,hu,hR,hc1,hc2,hlen⟩=>?_)
    subst hu
    rw [hsl] at hR hc1 hlen ⊢
    refine .assign (.z (.seq (.sr (.move ?_))))
    refine .lenS ?_ sl216
    refine .gtr ?_
    refine .z ?_
    refine .condT rfl (congrArg Value.bool (by first|simp;done|simp;omega|omega)) ?_
    refine .sr (.assign (.assign (.z ?_)))
    refine .ret (.thenRet (.scopeRet (?_)))
    exact .ret2 (h1:=.tmp (t:=2) rfl) (h2:=.tmp (t:=3) rfl) ⟨_,.inr ⟨(by rw [hpt,if_pos h8]),rfl,rfl⟩,Am.auto⟩
   ·refine .sr (.assign (.assign (.z (.scope (.seq (.sr (.move ?_)))))))
    refine .eqS (47 :: rest) [47] ?_
    refine .cast (d:=10) (u:=.bool false) rfl (congrArg Value.bool (decide_eq_false h1)) ?_
    refine .z ?_
    refine .condF rfl rfl ?_
    refine .skip (.next (.sr (.move ?_)))
    refine .call (hc:=Tryz.call179) (sp:=cutPre (xs:=47 :: rest) (ps:=[47])) (h:=?_)
    rintro _ _ ⟨rfl,hM⟩
    obtain rfl:=hM.symm
    rw [if_pos h2,decide_eq_true h2,show (47 :: rest).drop ([47]:Bytes).length=rest from rfl]
    refine .move ?_
    refine .extract ?_
    refine .extract ?_
    refine .assign (.assign (.z (.seq (.sr (.move ?_)))))
    refine .not ?_
    refine .z ?_
    refine .condF rfl rfl ?_
    refine .skip (.next (.sr (.move ?_)))
    refine .call (hc:=Tryz.call180) (sp:=splitSlS hrl) (h:=?_)
    rintro _ _ ⟨u,hu0,rfl⟩
    rw [hu0]
    clear hu0
    refine .fact (rowR_shape (el:=9) (size:=1) (v:=u) (k:=(splitSl rest).length) (xs:=svs (splitSl rest))) (fun ⟨A,cc,hu,hR,hc1,hc2,hlen⟩=>?_)
    subst hu
    rw [hsl] at hR hc1 hlen ⊢
    refine .assign (.z (.seq (.sr (.move ?_))))
    refine .lenS ?_ sl216
    refine .gtr ?_
    refine .z ?_
    refine .condF rfl (congrArg Value.bool (by first|simp;done|simp;omega|omega)) ?_
    refine .skip (.next (.seq (.label (.next (.seq (.sr (.move ?_)))))))
    refine .lenS ?_ sl216
    refine .move (.z (.block ?_))
    refine .loopA (σ:=Nat) (fun k=>[(6,.slice A l.length cc),(23,.slice A l.length cc),(24,.int .i64 ((l.length:Nat):Int)),(25,.int .i64 ((k:Nat):Int))]) (fun _=>rowR 9 1 (.slice A l.length cc) l.length (svs l) :: F) (fun k=>k<=l.length/\∀ j,j < k->nameOk (l.getD j [])=true) (fun k=>l.length - k) 0 ⟨Nat.zero_le _,fun j hj=>absurd hj (Nat.not_lt_zero _)⟩ ?_
    rintro k hk
    refine .sr ?_
    refine .lss ?_
    refine .z (.seq ?_)
    refine .cond rfl (fun hb=>?_) (fun hb=>?_)
    ·have hlt:k < l.length:=by have h:(k:Int) < (l.length:Int):=of_decide_eq_true hb;omega
     have hll:=svs_length l
     rcases A with _ | ⟨ab,ao,asp⟩
     ·exact absurd hR (fun h=>by have h2:svs l=[]:=h;rw [h2] at hll;simp at hll;omega)
     have hsp:asp=none:=hR.1
     subst hsp
     have hgk:(svs l)[((k:Nat):Int).toNat]?=some (sv l[k]):=svs_get hlt
     refine .skip (.next (.seq (.block (.sr ?_))))
     refine .idx1 ?_ so216
     refine .ldR (i:=((k:Nat):Int).toNat) ?_ sc9 hR hgk
     refine .assign (.z (.seq (.sr (.move ?_))))
     refine .call (hc:=Tryz.call181) (sp:=dName (xs:=l[k])) (h:=?_)
     rintro _ _ ⟨rfl,rfl⟩
     refine .z ?_
     cases hnm:nameOk l[k]
     ·refine .condF rfl rfl ?_
      refine .skip (.next (.sr (.assign (.assign (.z ?_)))))
      refine .ret (.blockRet (.thenRet (.thenRet (.blockRet (.thenRet (.scopeRet (?_)))))))
      have hall:l.all nameOk=false:=by
       rw [List.all_eq_false]
       exact ⟨l[k],List.getElem_mem hlt,by rw [hnm];decide⟩
      exact .ret2 (h1:=.tmp (t:=2) rfl) (h2:=.tmp (t:=3) rfl) ⟨_,.inr ⟨(by rw [hpt,if_neg h8,if_neg (by rw [hall];decide)]),rfl,rfl⟩,Am.auto⟩
     ·refine .condT rfl rfl ?_
      refine .exit (.thenExit (.blockExit (?_)))
      refine .next (.region ?_)
      refine .add ?_
      refine .move (.nil ?_)
      refine .cast (d:=25) (u:=.int .i64 ((k+1:Nat):Int)) rfl (congrArg (Value.int .i64) (by omega)) ?_
      exact .back (k+1) ⟨by show k+1<=l.length;omega,fun j hj=>if hjk:j < k then hk.2 j hjk else by rw [show j=k from by omega,List.getD_eq_getElem?_getD,List.getElem?_eq_getElem hlt];exact hnm⟩ (by show l.length - (k+1) < l.length - k;omega)
    ·have hge:¬ k < l.length:=by have h:¬ (k:Int) < (l.length:Int):=of_decide_eq_false hb;omega
     have hall:l.all nameOk=true:=by
      rw [List.all_eq_true]
      intro x hx
      obtain ⟨j,hj,rfl⟩:=List.mem_iff_getElem.1 hx
      have:=hk.2 j (by omega)
      rwa [List.getD_eq_getElem?_getD,List.getElem?_eq_getElem hj] at this
     refine .exit (.thenExit (.thenExit (.blockExit (?_))))
     refine .next (.sr (.move (.assign (.assign (.z ?_)))))
     refine .ret (.scopeRet (?_))
     exact .ret2 (h1:=.tmp (t:=2) rfl) (h2:=.tmp (t:=3) rfl) ⟨_,.inl ⟨l,_,by rw [hpt,if_neg h8,if_pos hall],rfl,rfl⟩,Am.auto⟩
  ·refine .sr (.assign (.assign (.z (.scope (.seq (.sr (.move ?_)))))))
   refine .eqS path [47] ?_
   refine .cast (d:=10) (u:=.bool false) rfl (congrArg Value.bool (decide_eq_false h1)) ?_
   refine .z ?_
   refine .condF rfl rfl ?_
   refine .skip (.next (.sr (.move ?_)))
   refine .call (hc:=Tryz.call179) (sp:=cutPre (xs:=path) (ps:=[47])) (h:=?_)
   rintro _ _ ⟨rfl,hM⟩
   obtain rfl:=hM.symm
   rw [if_neg h2,decide_eq_false h2]
   refine .move ?_
   refine .extract ?_
   refine .extract ?_
   refine .assign (.assign (.z (.seq (.sr (.move ?_)))))
   refine .not ?_
   refine .z ?_
   refine .condT rfl rfl ?_
   refine .sr (.assign (.assign (.z ?_)))
   refine .ret (.thenRet (.scopeRet (?_)))
   have hno:partsT path=none:=by
    cases path with
    | nil=>rfl
    | cons x r =>
     have hx:x≠47:=fun hx=>h2 (by rw [hx];rfl)
     show (if x=47 then _ else none)=none
     rw [if_neg hx]
   exact .ret2 (h1:=.tmp (t:=2) rfl) (h2:=.tmp (t:=3) rfl) ⟨_,.inr ⟨hno,rfl,rfl⟩,Am.auto⟩
theorem fsParts {path:Bytes} {l:List Bytes} (hl:path.length<=1000000) (hp:partsT path=some l):Spec Tryz.prog 153 #[sv path] [] fun F v M=>∃ u,v=.tuple #[u,.int .i64 0]/\M=rowR 9 1 u l.length (svs l) :: F:=by
 refine (fsPartsA hl).post ?_
 rintro F v M (⟨l',u,h,rfl,rfl⟩ | ⟨h,_⟩)
 ·rw [hp] at h
  injection h with h
  subst h
  exact ⟨_,⟨u,rfl,rfl⟩,Wk.refl⟩
 ·rw [hp] at h;cases h
theorem fsPartsNo {path:Bytes} (hl:path.length<=1000000) (hp:partsT path=none):Spec Tryz.prog 153 #[sv path] [] fun F v M=>v=.tuple #[.slice none 0 0,.int .i64 1]/\M=F:=by
 refine (fsPartsA hl).post ?_
 rintro F v M (⟨l',u,h,rfl,rfl⟩ | ⟨h,rfl,rfl⟩)
 ·rw [hp] at h;cases h
 ·exact ⟨_,⟨rfl,rfl⟩,Wk.refl⟩
theorem fo81_6 :fieldOk Tryz.prog 81 6 6=true:=by kernel_rfl
theorem sc79 :scalarOk Tryz.prog 79=true:=by kernel_rfl
theorem fo81_2 :fieldOk Tryz.prog 81 2 2=true:=by kernel_rfl
theorem sc78 :scalarOk Tryz.prog 78=true:=by kernel_rfl
theorem mp79 :mapOk Tryz.prog 79 223 3=true:=by kernel_rfl
theorem ptr24 :ptrOk Tryz.prog 24=true:=by kernel_rfl
theorem fo81_0 :fieldOk Tryz.prog 81 0 0=true:=by kernel_rfl
theorem bdLink (d:Int) (s:ByteArray):BuildOk Tryz.prog 223 [(0,.int .i64 d),(1,.string s)] #[.int .i64 d,.string s]:=fun w=>by kernel_rfl
abbrev KL :=Int×Bytes
def encL :KL->Value:=fun k=>.agg (xvs [.inl k.1,.inr k.2]).toArray
theorem klL :KeyLaw Tryz.prog 223 encL:=mixKeys (fun k:KL=>[.inl k.1,.inr k.2]) [true,false] (by kernel_rfl) (fun _=>rfl) (fun a b h=>by
 obtain ⟨a1,a2⟩:=a
 obtain ⟨b1,b2⟩:=b
 injection h with h1 h2
 injection h1 with h1
 injection h2 with h2 _
 injection h2 with h2
 have h1:a1=b1:=h1
 have h2:a2=b2:=h2
 rw [h1,h2])
structure LDP (T:FT) (y:Array MapEntry×Nat×List (KL×Value)):Prop where
 hm:MapIs encL y.1 y.2.1 y.2.2
 ok:∀ d nm v,kget y.2.2 (d,nm)=some v->∃ i:Nat,v=nI i/\0<=d/\findT T d.toNat nm=(i,0)
def LD (mp:Nat) (T:FT):HP:=fun h=>∃ y,LDP T y/\star [pt mp (.map y.1 y.2.1)] h
theorem LD.opens (mp:Nat) (T:FT):Opens (LD mp T) (LDP T) (fun y=>[pt mp (.map y.1 y.2.1)]):=⟨fun h hh=>hh,fun x hp h hh=>⟨x,hp,hh⟩⟩
attribute [irreducible] LD
theorem LDP.empty (T:FT) (c:Nat):LDP T (#[],c,[]):=⟨MapIs.empty _ _,fun d nm v h=>by cases h⟩
theorem LDP.put {T:FT} {es:Array MapEntry} {c:Nat} {kv:List (KL×Value)} {es':Array MapEntry} {c':Nat} (h:LDP T (es,c,kv)) {d i:Nat} {nm:Bytes} (hm:MapIs encL es' c' (kput kv ((d:Int),nm) (nI i))) (hf:findT T d nm=(i,0)):LDP T (es',c',kput kv ((d:Int),nm) (nI i)):=by
 refine ⟨hm,fun d' nm' v hg=>?_⟩
 rw [kget_put] at hg
 split at hg
 ·rename_i he
  injection he with h1 h2
  injection hg with hg
  exact ⟨i,hg.symm,by omega,by rw [h1,h2,Int.toNat_natCast];exact hf⟩
 ·exact h.ok d' nm' v hg
def fO (c a s:Nat) (b ov dead:Bool) (mp:Nat):Obj:=.cells #[.pointer (some ⟨c,0,none⟩),.pointer (some ⟨a,0,none⟩),.pointer (some ⟨s,0,none⟩),.bool b,.bool ov,.bool dead,.map (some mp)] 81 (0,0)
theorem dFindT {s a c:Nat} {p:Pl} {T:FT} {F0:FM} {W:Nat} {op:Bool} {d:Nat} {nm:Bytes} (ho:PlOk p) (hT:TOk T):Spec Tryz.prog 156 #[.pointer (some ⟨s,0,none⟩),nI d,sv nm] [IN s a c p F0 (fmT T) W op] fun G v M=>v=.tuple #[nI (findT T d nm).1,nI (findT T d nm).2]/\M=IN s a c p F0 (fmT T) W op :: G:=by
 obtain ⟨i,e,hf⟩:∃ i e,findT T d nm=(i,e):=⟨_,_,rfl⟩
 rw [hf]
 by_cases he:e=0
 ·subst he
  obtain ⟨hn,sl,q,hd,hl⟩:=findT_ok hf
  have:=hT d sl hd
  exact dFind (s:=s) (a:=a) (c:=c) (p:=p) (F0:=F0) (Fm:=fmT T) (W:=W) (op:=op) ho hn (fmT_some hd) this.1 (by omega) (lookS_some hl)
 ·obtain ⟨rfl,h | ⟨hn,rfl,sl,hd,hl⟩⟩:=findT_err hf he
  ·exact dFindE (s:=s) (a:=a) (c:=c) (p:=p) (F0:=F0) (Fm:=fmT T) (W:=W) (op:=op) (d:=(d:Int)) (e:=(e:Int)) ho h (by omega)
  ·have:=hT d sl hd
   exact dFindNo (s:=s) (a:=a) (c:=c) (p:=p) (F0:=F0) (Fm:=fmT T) (W:=W) (op:=op) ho hn (fmT_some hd) this.1 (by omega) (lookS_none hl)
theorem fsFind {f s a c mp:Nat} {b ov dead:Bool} {p:Pl} {T:FT} {F0:FM} {W:Nat} {op:Bool} {d:Nat} {nm:Bytes} (ho:PlOk p) (hT:TOk T):Spec Tryz.prog 108 #[.pointer (some ⟨f,0,none⟩),nI d,sv nm] [pt f (fO c a s b ov dead mp),LD mp T,IN s a c p F0 (fmT T) W op] fun F v M=>v=.tuple #[nI (findT T d nm).1,nI (findT T d nm).2]/\M=pt f (fO c a s b ov dead mp) :: LD mp T :: IN s a c p F0 (fmT T) W op :: F:=by
 refine Spec.intro Tryz.func108 rfl rfl fun B F=>?_
 simp only [Tryz.ntmps108,List.cons_append,List.nil_append,env0,Nat.reduceAdd]
 refine .openR (LD.opens mp T) fun y hy=>?_
 obtain ⟨es,cl,kv⟩:=y
 simp only [List.cons_append,List.nil_append]
 cases hg:kget kv ((d:Int),nm) with
 | some v =>
  obtain ⟨i,rfl,_,hf⟩:=hy.ok _ _ _ hg
  rw [Int.toNat_natCast] at hf
  refine .sr (.assign (.assign (.z (.seq (.sr (.move ?_))))))
  refine .nilCheck ?_
  refine .fa ?_ fo81_6
  refine .ld ?_ sc79
  refine .move (.move ?_)
  refine .build ?_ (bdLink _ _)
  refine .lookOk (k:=((d:Int),nm)) klL hy.hm mp79 zv3 ?_
  refine .cast (d:=20) (u:=.tuple #[nI i,.bool true]) rfl (by rw [hg];rfl) ?_
  refine .move ?_
  refine .extract ?_
  refine .extract ?_
  refine .assign (.assign (.x (.move (.z ?_))))
  refine .condT rfl rfl ?_
  refine .sr (.move (.assign (.assign (.z ?_))))
  refine .ret (.thenRet (?_))
  refine .shutR (LD.opens mp T) (es,cl,kv) hy ?_
  exact .ret2 (h1:=.tmp (t:=6) rfl) (h2:=.tmp (t:=7) rfl) ⟨_,⟨by first | rfl | (rw [hf];rfl),rfl⟩,Am.auto⟩
 | none =>
  obtain ⟨i,e,hf⟩:∃ i e,findT T d nm=(i,e):=⟨_,_,rfl⟩
  by_cases he:e=0
  ·subst he
   refine .sr (.assign (.assign (.z (.seq (.sr (.move ?_))))))
   refine .nilCheck ?_
   refine .fa ?_ fo81_6
   refine .ld ?_ sc79
   refine .move (.move ?_)
   refine .build ?_ (bdLink _ _)
   refine .lookOk (k:=((d:Int),nm)) klL hy.hm mp79 zv3 ?_
   refine .cast (d:=20) (u:=.tuple #[nI 0,.bool false]) rfl (by rw [hg];rfl) ?_
   refine .move ?_
   refine .extract ?_
   refine .extract ?_
   refine .assign (.assign (.x (.move (.z ?_))))
   refine .condF rfl rfl ?_
   refine .skip (.next (.sr (.move ?_)))
   refine .nilCheck ?_
   refine .fa ?_ fo81_2
   refine .ld ?_ sc78
   refine .move (.move ?_)
   refine .call (hc:=Tryz.call156) (sp:=dFindT (s:=s) (a:=a) (c:=c) (p:=p) (F0:=F0) (T:=T) (W:=W) (op:=op) (d:=d) (nm:=nm) ho hT) (h:=?_)
   rintro _ _ ⟨rfl,rfl⟩
   rw [hf]
   refine .move ?_
   refine .extract ?_
   refine .extract ?_
   refine .assign (.assign (.z (.seq (.sr (.move ?_)))))
   refine .eqi ?_
   refine .z ?_
   refine .condT rfl (congrArg Value.bool (by first|simp;done|simp;omega|omega)) ?_
   refine .region (.move ?_)
   refine .nilCheck ?_
   refine .fa ?_ fo81_6
   refine .ld ?_ sc79
   refine .move (.move ?_)
   refine .build ?_ (bdLink _ _)
   refine .move ?_
   refine .upd (k:=((d:Int),nm)) klL hy.hm mp79 fun es2 c2 hm2=>?_
   refine .x (.move (.move (.assign (.assign (.z ?_)))))
   refine .ret (?_)
   refine .shutR (LD.opens mp T) (es2,c2,_) (hy.put hm2 hf) ?_
   exact .ret2 (h1:=.tmp (t:=6) rfl) (h2:=.tmp (t:=7) rfl) ⟨_,⟨by first | rfl | (rw [hf];rfl),rfl⟩,Am.auto⟩
  ·refine .sr (.assign (.assign (.z (.seq (.sr (.move ?_))))))
   refine .nilCheck ?_
   refine .fa ?_ fo81_6
   refine .ld ?_ sc79
   refine .move (.move ?_)
   refine .build ?_ (bdLink _ _)
   refine .lookOk (k:=((d:Int),nm)) klL hy.hm mp79 zv3 ?_
   refine .cast (d:=20) (u:=.tuple #[nI 0,.bool false]) rfl (by rw [hg];rfl) ?_
   refine .move ?_
   refine .extract ?_
   refine .extract ?_
   refine .assign (.assign (.x (.move (.z ?_))))
   refine .condF rfl rfl ?_
   refine .skip (.next (.sr (.move ?_)))
   refine .nilCheck ?_
   refine .fa ?_ fo81_2
   refine .ld ?_ sc78
   refine .move (.move ?_)
   refine .call (hc:=Tryz.call156) (sp:=dFindT (s:=s) (a:=a) (c:=c) (p:=p) (F0:=F0) (T:=T) (W:=W) (op:=op) (d:=d) (nm:=nm) ho hT) (h:=?_)
   rintro _ _ ⟨rfl,rfl⟩
   rw [hf]
   refine .move ?_
   refine .extract ?_
   refine .extract ?_
   refine .assign (.assign (.z (.seq (.sr (.move ?_)))))
   refine .eqi ?_
   refine .z ?_
   refine .condF rfl (congrArg Value.bool (by first|simp;done|simp;omega|omega)) ?_
   refine .skip (.next (.sr (.move (.move (.assign (.assign (.z ?_)))))))
   refine .ret (?_)
   refine .shutR (LD.opens mp T) (es,cl,kv) hy ?_
   exact .ret2 (h1:=.tmp (t:=6) rfl) (h2:=.tmp (t:=7) rfl) ⟨_,⟨by first | rfl | (rw [hf];rfl),rfl⟩,Am.auto⟩
theorem walkT_step {T:FT} {nm:Bytes} {r:List Bytes} {d:Nat} (h:(findT T d nm).2=0):walkT T d (nm :: r)=walkT T (findT T d nm).1 r:=by rw [walkT,if_pos h]
theorem walkT_stop {T:FT} {nm:Bytes} {r:List Bytes} {d:Nat} (h:(findT T d nm).2≠0):walkT T d (nm :: r)=(0,(findT T d nm).2):=by rw [walkT,if_neg h]
theorem fsWalk {f s a c mp:Nat} {b ov dead:Bool} {p:Pl} {T:FT} {F0:FM} {W:Nat} {op:Bool} {R:HP} {A:Option Addr} {cc m:Nat} {l:List Bytes} (ho:PlOk p) (hT:TOk T) (hR:Reads R A (svs l) ∨ l=[]) (hl:l.length=m) (hl8:m<=1000000):Spec Tryz.prog 154 #[.pointer (some ⟨f,0,none⟩),.slice A m cc] [pt f (fO c a s b ov dead mp),LD mp T,IN s a c p F0 (fmT T) W op,R] fun F v M=>v=.tuple #[nI (walkT T 0 l).1,nI (walkT T 0 l).2]/\M=pt f (fO c a s b ov dead mp) :: LD mp T :: IN s a c p F0 (fmT T) W op :: R :: F:=by
 refine Spec.intro Tryz.func154 rfl rfl fun B F=>?_
 simp only [Tryz.ntmps154,List.cons_append,List.nil_append,env0,Nat.reduceAdd]
 subst hl
 refine .sr (.assign (.assign (.z (.seq (.sr (.move ?_))))))
 refine .lenS ?_ sl216
 refine .move (.z (.block ?_))
 refine .loopA (σ:=Nat×Nat) (fun y=>[(0,.pointer (some ⟨f,0,none⟩)),(4,nI y.2),(8,.slice A l.length cc),(9,.int .i64 ((l.length:Nat):Int)),(10,.int .i64 ((y.1:Nat):Int))]) (fun _=>[pt f (fO c a s b ov dead mp),LD mp T,IN s a c p F0 (fmT T) W op,R]++F) (fun y=>y.1<=l.length/\walkT T y.2 (l.drop y.1)=walkT T 0 l) (fun y=>l.length - y.1) (0,0) ⟨Nat.zero_le _,rfl⟩ ?_
 rintro y hy
 obtain ⟨k,d⟩:=y
 obtain ⟨hk,hwk⟩:=hy
 simp only at hk hwk ⊢
 refine .sr ?_
 refine .lss ?_
 refine .z (.seq ?_)
 refine .cond rfl (fun hb=>?_) (fun hb=>?_)
 ·have hlt:k < l.length:=by have h:(k:Int) < (l.length:Int):=of_decide_eq_true hb;omega
  have hdk:=List.drop_eq_getElem_cons hlt
  rcases hR with hR | hR
  rotate_left
  ·subst hR;simp at hlt
  rcases A with _ | ⟨ab,ao,asp⟩
  ·exact absurd hR (fun h=>by have h2:svs l=[]:=h;have hll:=svs_length l;rw [h2] at hll;simp at hll;omega)
  have hsp:asp=none:=hR.1
  subst hsp
  have hgk:(svs l)[((k:Nat):Int).toNat]?=some (sv l[k]):=svs_get hlt
  obtain ⟨i,e,hf⟩:∃ i e,findT T d l[k]=(i,e):=⟨_,_,rfl⟩
  by_cases he:e=0
  ·subst he
   refine .skip (.next (.seq (.block (.sr ?_))))
   refine .idx1 ?_ so216
   refine .ldR (i:=((k:Nat):Int).toNat) ?_ sc9 hR hgk
   refine .assign (.x (.move (.move (.move ?_))))
   refine .call (hc:=Tryz.call108) (sp:=fsFind (f:=f) (s:=s) (a:=a) (c:=c) (mp:=mp) (b:=b) (ov:=ov) (dead:=dead) (p:=p) (T:=T) (F0:=F0) (W:=W) (op:=op) (d:=d) (nm:=l[k]) ho hT) (h:=?_)
   rintro _ _ ⟨rfl,rfl⟩
   rw [hf]
   refine .move ?_
   refine .extract ?_
   refine .extract ?_
   refine .assign (.assign (.x (.move ?_)))
   refine .nei ?_
   refine .z ?_
   refine .condF rfl (congrArg Value.bool (by first|simp;done|simp;omega|omega)) ?_
   refine .skip (.blockNormal (.next (.region ?_)))
   refine .add ?_
   refine .move (.nil ?_)
   refine .cast (d:=10) (u:=.int .i64 ((k+1:Nat):Int)) rfl (congrArg (Value.int .i64) (by omega)) ?_
   exact .back (k+1,i) ⟨by show k+1<=l.length;omega,by show walkT T i (l.drop (k+1))=_;rw [<- hwk,hdk,walkT_step (by rw [hf]),hf]⟩ (by show l.length - (k+1) < l.length - k;omega)
  ·refine .skip (.next (.seq (.block (.sr ?_))))
   refine .idx1 ?_ so216
   refine .ldR (i:=((k:Nat):Int).toNat) ?_ sc9 hR hgk
   refine .assign (.x (.move (.move (.move ?_))))
   refine .call (hc:=Tryz.call108) (sp:=fsFind (f:=f) (s:=s) (a:=a) (c:=c) (mp:=mp) (b:=b) (ov:=ov) (dead:=dead) (p:=p) (T:=T) (F0:=F0) (W:=W) (op:=op) (d:=d) (nm:=l[k]) ho hT) (h:=?_)
   rintro _ _ ⟨rfl,rfl⟩
   rw [hf]
   refine .move ?_
   refine .extract ?_
   refine .extract ?_
   refine .assign (.assign (.x (.move ?_)))
   refine .nei ?_
   refine .z ?_
   refine .condT rfl (congrArg Value.bool (by first|simp;done|simp;omega|omega)) ?_
   refine .sr (.move (.assign (.assign (.z ?_))))
   refine .ret (.blockRet (.thenRet (.thenRet (.blockRet (.thenRet (?_))))))
   have hst:walkT T 0 l=(0,e):=by rw [<- hwk,hdk,walkT_stop (by rw [hf];exact he),hf]
   exact .ret2 (h1:=.tmp (t:=4) rfl) (h2:=.tmp (t:=5) rfl) ⟨_,⟨by rw [hst];rfl,rfl⟩,Am.auto⟩
 ·have hge:¬ k < l.length:=by have h:¬ (k:Int) < (l.length:Int):=of_decide_eq_false hb;omega
  rw [List.drop_eq_nil_of_le (by omega)] at hwk
  refine .exit (.thenExit (.thenExit (.blockExit (?_))))
  refine .next (.sr (.move (.assign (.assign (.z ?_)))))
  refine .ret (?_)
  exact .ret2 (h1:=.tmp (t:=4) rfl) (h2:=.tmp (t:=5) rfl) ⟨_,⟨by rw [<- hwk];rfl,rfl⟩,Am.auto⟩
theorem nStatT {s a c:Nat} {p:Pl} {T:FT} {F0:FM} {W:Nat} {op:Bool} {i:Nat} {x:NodeT} (ho:PlOk p) (hi:T i=some x):Spec Tryz.prog 155 #[.pointer (some ⟨s,0,none⟩),nI i] [IN s a c p F0 (fmT T) W op] fun G v M=>v=.tuple #[.agg #[nI x.kind,nI x.size],.int .i64 0]/\M=IN s a c p F0 (fmT T) W op :: G:=by
 have:=nStat (s:=s) (a:=a) (c:=c) (p:=p) (F0:=F0) (F:=fmT T) (W:=W) (op:=op) (i:=i) ho (fmT_some hi)
 rwa [x.f_kind,x.f_size] at this
theorem nStatTNo {s a c:Nat} {p:Pl} {T:FT} {F0:FM} {W:Nat} {op:Bool} {i:Nat} (ho:PlOk p) (hi:T i=none):Spec Tryz.prog 155 #[.pointer (some ⟨s,0,none⟩),nI i] [IN s a c p F0 (fmT T) W op] fun G v M=>v=.tuple #[.agg #[nI 0,nI 0],.int .i64 4]/\M=IN s a c p F0 (fmT T) W op :: G :=
 nStatNo (i:=(i:Int)) ho (by rw [fileAt_nat];exact fmT_none hi)
theorem partsT_len {path:Bytes} {l:List Bytes} (h:partsT path=some l):l.length<=1000000:=by
 unfold partsT at h
 split at h
 ·cases h
 ·split at h
  ·split at h
   ·injection h with h;subst h;exact Nat.zero_le _
   ·split at h
    ·cases h
    ·split at h
     ·injection h with h;subst h;omega
     ·cases h
  ·cases h
theorem fsLeads {f s a c mp:Nat} {b ov dead:Bool} {p:Pl} {T:FT} {F0:FM} {W:Nat} {op:Bool} {path:Bytes} (ho:PlOk p) (hT:TOk T) (hpl:path.length<=1000000):Spec Tryz.prog 125 #[.pointer (some ⟨f,0,none⟩),sv path] [pt f (fO c a s b ov dead mp),LD mp T,IN s a c p F0 (fmT T) W op] fun F v M=>v=.tuple #[nI (leadsT T path).1,.agg #[nI (leadsT T path).2.1,nI (leadsT T path).2.2.1],nI (leadsT T path).2.2.2]/\M=pt f (fO c a s b ov dead mp) :: LD mp T :: IN s a c p F0 (fmT T) W op :: F:=by
 refine Spec.intro Tryz.func125 rfl rfl fun B F=>?_
 simp only [Tryz.ntmps125,List.cons_append,List.nil_append,env0,Nat.reduceAdd]
 cases hpt:partsT path with
 | none =>
  have hlt:leadsT T path=(0,0,0,1):=by unfold leadsT;rw [hpt]
  refine .sr (.assign ?_)
  refine .alloc z75 fun b5=>?_
  refine .assign (.z (.seq (.sr (.move ?_))))
  refine .eqNil ?_ ptr24
  refine .move ?_
  refine .gT ?_
  refine .move ?_
  refine .gT ?_
  refine .nilCheck ?_
  refine .gT ?_
  refine .fa ?_ fo81_0
  refine .gT ?_
  refine .ld ?_ sc76
  refine .gT ?_
  refine .eqNil ?_ ptr76
  refine .pickF ?_
  refine .z ?_
  refine .condF rfl rfl ?_
  refine .skip (.next (.sr (.move ?_)))
  refine .call (hc:=Tryz.call153) (sp:=fsPartsNo hpl hpt) (h:=?_)
  rintro _ _ ⟨rfl,rfl⟩
  refine .move ?_
  refine .extract ?_
  refine .extract ?_
  refine .assign (.assign (.z (.seq (.sr (.move ?_)))))
  refine .nei ?_
  refine .z ?_
  refine .condT rfl (congrArg Value.bool (by first|simp;done|simp;omega|omega)) ?_
  refine .sr ?_
  refine .build (cs:=#[nI 0,nI 0]) ?_ (fun w=>by kernel_rfl)
  refine .move (.assign ?_)
  refine .stV ?_ agg75
  refine .assign (.z ?_)
  refine .ret (.thenRet (?_))
  exact .ret3 (h1:=.tmp (t:=4) rfl) (h3:=.tmp (t:=6) rfl) ⟨_,⟨by rw [hlt];rfl,rfl⟩,Am.auto⟩
 | some l =>
  have hlt:leadsT T path=if (walkT T 0 l).2=0 then (match T (walkT T 0 l).1 with | some x=>((walkT T 0 l).1,x.kind,x.size,0) | none=>((walkT T 0 l).1,0,0,4)) else (0,0,0,(walkT T 0 l).2):=by unfold leadsT;rw [hpt];first | done | rfl
  have hl8:=partsT_len hpt
  obtain ⟨i,e,hw⟩:∃ i e,walkT T 0 l=(i,e):=⟨_,_,rfl⟩
  rw [hw] at hlt
  by_cases he:e=0
  ·subst he
   rw [if_pos rfl] at hlt
   cases hTi:T i with
   | some x =>
    simp only [hTi] at hlt
    refine .sr (.assign ?_)
    refine .alloc z75 fun b5=>?_
    refine .assign (.z (.seq (.sr (.move ?_))))
    refine .eqNil ?_ ptr24
    refine .move ?_
    refine .gT ?_
    refine .move ?_
    refine .gT ?_
    refine .nilCheck ?_
    refine .gT ?_
    refine .fa ?_ fo81_0
    refine .gT ?_
    refine .ld ?_ sc76
    refine .gT ?_
    refine .eqNil ?_ ptr76
    refine .pickF ?_
    refine .z ?_
    refine .condF rfl rfl ?_
    refine .skip (.next (.sr (.move ?_)))
    refine .call (hc:=Tryz.call153) (sp:=fsParts hpl hpt) (h:=?_)
    rintro _ _ ⟨u,rfl,rfl⟩
    refine .fact (rowR_shape (el:=9) (size:=1) (v:=u) (k:=l.length) (xs:=svs l)) (fun ⟨A,cc,hu,hR,hc1,hc2,hlen⟩=>?_)
    subst hu
    refine .move ?_
    refine .extract ?_
    refine .extract ?_
    refine .assign (.assign (.z (.seq (.sr (.move ?_)))))
    refine .nei ?_
    refine .z ?_
    refine .condF rfl (congrArg Value.bool (by first|simp;done|simp;omega|omega)) ?_
    refine .skip (.next (.sr (.move (.move ?_))))
    refine .call (hc:=Tryz.call154) (sp:=fsWalk (f:=f) (s:=s) (a:=a) (c:=c) (mp:=mp) (b:=b) (ov:=ov) (dead:=dead) (p:=p) (T:=T) (F0:=F0) (W:=W) (op:=op) (l:=l) (R:=rowR 9 1 (.slice A l.length cc) l.length (svs l)) ho hT (.inl hR) rfl hl8) (h:=?_)
    rintro _ _ ⟨rfl,rfl⟩
    rw [hw]
    refine .move ?_
    refine .extract ?_
    refine .extract ?_
    refine .assign (.assign (.z (.seq (.sr (.move ?_)))))
    refine .nei ?_
    refine .z ?_
    refine .condF rfl (congrArg Value.bool (by first|simp;done|simp;omega|omega)) ?_
    refine .skip (.next (.sr (.move ?_)))
    refine .nilCheck ?_
    refine .fa ?_ fo81_2
    refine .ld ?_ sc78
    refine .move ?_
    refine .call (hc:=Tryz.call155) (sp:=nStatT (s:=s) (a:=a) (c:=c) (p:=p) (F0:=F0) (T:=T) (W:=W) (op:=op) (i:=i) ho hTi) (h:=?_)
    rintro _ _ ⟨rfl,rfl⟩
    refine .move ?_
    refine .extract ?_
    refine .extract ?_
    refine .alloc z75 fun b10=>?_
    refine .stV ?_ agg75
    refine .assign (.z (.seq ?_))
    refine .dr ([pt b10 (.cells #[nI x.kind,nI x.size] 75 (0,0))]) [] 6 mixed .autoJ ?_
    refine .tk 0 rfl .move ?_
    refine .tk 1 rfl (.ldA agg75) ?_
    refine .tk 2 rfl .move ?_
    refine .tk 3 rfl .assign ?_
    refine .on 4 rfl fun hnp=>?_
    refine .stV ?_ agg75
    refine .nil (.wa hnp ?_)
    refine .tk 5 rfl .assign ?_
    refine .fin ?_
    refine .next ?_
    refine .ret (?_)
    exact .ret3 (h1:=.tmp (t:=4) rfl) (h3:=.tmp (t:=6) rfl) ⟨_,⟨by rw [hlt];rfl,rfl⟩,Am.auto⟩
   | none =>
    simp only [hTi] at hlt
    refine .sr (.assign ?_)
    refine .alloc z75 fun b5=>?_
    refine .assign (.z (.seq (.sr (.move ?_))))
    refine .eqNil ?_ ptr24
    refine .move ?_
    refine .gT ?_
    refine .move ?_
    refine .gT ?_
    refine .nilCheck ?_
    refine .gT ?_
    refine .fa ?_ fo81_0
    refine .gT ?_
    refine .ld ?_ sc76
    refine .gT ?_
    refine .eqNil ?_ ptr76
    refine .pickF ?_
    refine .z ?_
    refine .condF rfl rfl ?_
    refine .skip (.next (.sr (.move ?_)))
    refine .call (hc:=Tryz.call153) (sp:=fsParts hpl hpt) (h:=?_)
    rintro _ _ ⟨u,rfl,rfl⟩
    refine .fact (rowR_shape (el:=9) (size:=1) (v:=u) (k:=l.length) (xs:=svs l)) (fun ⟨A,cc,hu,hR,hc1,hc2,hlen⟩=>?_)
    subst hu
    refine .move ?_
    refine .extract ?_
    refine .extract ?_
    refine .assign (.assign (.z (.seq (.sr (.move ?_)))))
    refine .nei ?_
    refine .z ?_
    refine .condF rfl (congrArg Value.bool (by first|simp;done|simp;omega|omega)) ?_
    refine .skip (.next (.sr (.move (.move ?_))))
    refine .call (hc:=Tryz.call154) (sp:=fsWalk (f:=f) (s:=s) (a:=a) (c:=c) (mp:=mp) (b:=b) (ov:=ov) (dead:=dead) (p:=p) (T:=T) (F0:=F0) (W:=W) (op:=op) (l:=l) (R:=rowR 9 1 (.slice A l.length cc) l.length (svs l)) ho hT (.inl hR) rfl hl8) (h:=?_)
    rintro _ _ ⟨rfl,rfl⟩
    rw [hw]
    refine .move ?_
    refine .extract ?_
    refine .extract ?_
    refine .assign (.assign (.z (.seq (.sr (.move ?_)))))
    refine .nei ?_
    refine .z ?_
    refine .condF rfl (congrArg Value.bool (by first|simp;done|simp;omega|omega)) ?_
    refine .skip (.next (.sr (.move ?_)))
    refine .nilCheck ?_
    refine .fa ?_ fo81_2
    refine .ld ?_ sc78
    refine .move ?_
    refine .call (hc:=Tryz.call155) (sp:=nStatTNo (s:=s) (a:=a) (c:=c) (p:=p) (F0:=F0) (T:=T) (W:=W) (op:=op) (i:=i) ho hTi) (h:=?_)
    rintro _ _ ⟨rfl,rfl⟩
    refine .move ?_
    refine .extract ?_
    refine .extract ?_
    refine .alloc z75 fun b10=>?_
    refine .stV ?_ agg75
    refine .assign (.z (.seq ?_))
    refine .dr ([pt b10 (.cells #[nI 0,nI 0] 75 (0,0))]) [] 6 mixed .autoJ ?_
    refine .tk 0 rfl .move ?_
    refine .tk 1 rfl (.ldA agg75) ?_
    refine .tk 2 rfl .move ?_
    refine .tk 3 rfl .assign ?_
    refine .on 4 rfl fun hnp=>?_
    refine .stV ?_ agg75
    refine .nil (.wa hnp ?_)
    refine .tk 5 rfl .assign ?_
    refine .fin ?_
    refine .next ?_
    refine .ret (?_)
    exact .ret3 (h1:=.tmp (t:=4) rfl) (h3:=.tmp (t:=6) rfl) ⟨_,⟨by rw [hlt];rfl,rfl⟩,Am.auto⟩
  ·rw [if_neg he] at hlt
   refine .sr (.assign ?_)
   refine .alloc z75 fun b5=>?_
   refine .assign (.z (.seq (.sr (.move ?_))))
   refine .eqNil ?_ ptr24
   refine .move ?_
   refine .gT ?_
   refine .move ?_
   refine .gT ?_
   refine .nilCheck ?_
   refine .gT ?_
   refine .fa ?_ fo81_0
   refine .gT ?_
   refine .ld ?_ sc76
   refine .gT ?_
   refine .eqNil ?_ ptr76
   refine .pickF ?_
   refine .z ?_
   refine .condF rfl rfl ?_
   refine .skip (.next (.sr (.move ?_)))
   refine .call (hc:=Tryz.call153) (sp:=fsParts hpl hpt) (h:=?_)
   rintro _ _ ⟨u,rfl,rfl⟩
   refine .fact (rowR_shape (el:=9) (size:=1) (v:=u) (k:=l.length) (xs:=svs l)) (fun ⟨A,cc,hu,hR,hc1,hc2,hlen⟩=>?_)
   subst hu
   refine .move ?_
   refine .extract ?_
   refine .extract ?_
   refine .assign (.assign (.z (.seq (.sr (.move ?_)))))
   refine .nei ?_
   refine .z ?_
   refine .condF rfl (congrArg Value.bool (by first|simp;done|simp;omega|omega)) ?_
   refine .skip (.next (.sr (.move (.move ?_))))
   refine .call (hc:=Tryz.call154) (sp:=fsWalk (f:=f) (s:=s) (a:=a) (c:=c) (mp:=mp) (b:=b) (ov:=ov) (dead:=dead) (p:=p) (T:=T) (F0:=F0) (W:=W) (op:=op) (l:=l) (R:=rowR 9 1 (.slice A l.length cc) l.length (svs l)) ho hT (.inl hR) rfl hl8) (h:=?_)
   rintro _ _ ⟨rfl,rfl⟩
   rw [hw]
   refine .move ?_
   refine .extract ?_
   refine .extract ?_
   refine .assign (.assign (.z (.seq (.sr (.move ?_)))))
   refine .nei ?_
   refine .z ?_
   refine .condT rfl (congrArg Value.bool (by first|simp;done|simp;omega|omega)) ?_
   refine .sr ?_
   refine .build (cs:=#[nI 0,nI 0]) ?_ (fun w=>by kernel_rfl)
   refine .move (.assign ?_)
   refine .stV ?_ agg75
   refine .assign (.z ?_)
   refine .ret (.thenRet (?_))
   exact .ret3 (h1:=.tmp (t:=4) rfl) (h3:=.tmp (t:=6) rfl) ⟨_,⟨by rw [hlt];rfl,rfl⟩,Am.auto⟩
theorem fsFileAt {f s a c mp:Nat} {b ov dead:Bool} {p:Pl} {T:FT} {F0:FM} {W:Nat} {op:Bool} {path:Bytes} (ho:PlOk p) (hT:TOk T) (hpl:path.length<=1000000):Spec Tryz.prog 65 #[.pointer (some ⟨f,0,none⟩),sv path] [pt f (fO c a s b ov dead mp),LD mp T,IN s a c p F0 (fmT T) W op] fun F v M=>v=.tuple #[nI (fileT T path).1,.agg #[nI (fileT T path).2.1,nI (fileT T path).2.2.1],nI (fileT T path).2.2.2]/\M=pt f (fO c a s b ov dead mp) :: LD mp T :: IN s a c p F0 (fmT T) W op :: F:=by
 refine Spec.intro Tryz.func65 rfl rfl fun B F=>?_
 simp only [Tryz.ntmps65,List.cons_append,List.nil_append,env0,Nat.reduceAdd]
 obtain ⟨i,k,z,e,hlt⟩:∃ i k z e,leadsT T path=(i,k,z,e):=⟨_,_,_,_,rfl⟩
 have hft:fileT T path=if e=0/\k≠1 then (0,0,0,6) else (i,k,z,e):=by unfold fileT;rw [hlt]
 by_cases he:e=0
 ·subst he
  by_cases hk:k=1
  ·rw [if_neg (fun h=>h.2 hk)] at hft
   refine .sr (.assign ?_)
   refine .alloc z75 fun b5=>?_
   refine .assign (.x (.move (.move ?_)))
   refine .call (hc:=Tryz.call125) (sp:=fsLeads (f:=f) (s:=s) (a:=a) (c:=c) (mp:=mp) (b:=b) (ov:=ov) (dead:=dead) (p:=p) (T:=T) (F0:=F0) (W:=W) (op:=op) (path:=path) ho hT hpl) (h:=?_)
   rintro _ _ ⟨rfl,rfl⟩
   rw [hlt]
   refine .move ?_
   refine .extract ?_
   refine .extract ?_
   refine .extract ?_
   refine .alloc z75 fun b8=>?_
   refine .assign ?_
   refine .stV ?_ agg75
   refine .assign (.z (.seq (.sr (.move ?_))))
   refine .eqi ?_
   refine .move ?_
   refine .cast (d:=19) (u:=.bool true) rfl (congrArg Value.bool (by first|simp;done|simp;omega|omega)) ?_
   refine .gT ?_
   refine .fa ?_ fo75_0
   refine .gT ?_
   refine .ld ?_ sc3
   refine .gT ?_
   refine .nei ?_
   refine .pickT ?_
   refine .z ?_
   refine .condF rfl (congrArg Value.bool (by first|simp;done|simp;omega|omega)) ?_
   refine .skip (.next (.seq ?_))
   refine .dr ([pt b8 (.cells #[nI k,nI z] 75 (0,0))]) [] 6 mixed .autoJ ?_
   refine .tk 0 rfl .move ?_
   refine .tk 1 rfl (.ldA agg75) ?_
   refine .tk 2 rfl .move ?_
   refine .tk 3 rfl .assign ?_
   refine .on 4 rfl fun hnp=>?_
   refine .stV ?_ agg75
   refine .nil (.wa hnp ?_)
   refine .tk 5 rfl .assign ?_
   refine .fin ?_
   refine .next ?_
   refine .ret (?_)
   exact .ret3 (h1:=.tmp (t:=4) rfl) (h3:=.tmp (t:=6) rfl) ⟨_,⟨by rw [hft];rfl,rfl⟩,Am.auto⟩
  ·rw [if_pos ⟨rfl,hk⟩] at hft
   refine .sr (.assign ?_)
   refine .alloc z75 fun b5=>?_
   refine .assign (.x (.move (.move ?_)))
   refine .call (hc:=Tryz.call125) (sp:=fsLeads (f:=f) (s:=s) (a:=a) (c:=c) (mp:=mp) (b:=b) (ov:=ov) (dead:=dead) (p:=p) (T:=T) (F0:=F0) (W:=W) (op:=op) (path:=path) ho hT hpl) (h:=?_)
   rintro _ _ ⟨rfl,rfl⟩
   rw [hlt]
   refine .move ?_
   refine .extract ?_
   refine .extract ?_
   refine .extract ?_
   refine .alloc z75 fun b8=>?_
   refine .assign ?_
   refine .stV ?_ agg75
   refine .assign (.z (.seq (.sr (.move ?_))))
   refine .eqi ?_
   refine .move ?_
   refine .cast (d:=19) (u:=.bool true) rfl (congrArg Value.bool (by first|simp;done|simp;omega|omega)) ?_
   refine .gT ?_
   refine .fa ?_ fo75_0
   refine .gT ?_
   refine .ld ?_ sc3
   refine .gT ?_
   refine .nei ?_
   refine .pickT ?_
   refine .z ?_
   refine .condT rfl (congrArg Value.bool (by first|simp;done|simp;omega|omega)) ?_
   refine .sr ?_
   refine .build (cs:=#[nI 0,nI 0]) ?_ (fun w=>by kernel_rfl)
   refine .assign ?_
   refine .stV ?_ agg75
   refine .assign (.z ?_)
   refine .ret (.thenRet (?_))
   exact .ret3 (h1:=.tmp (t:=4) rfl) (h3:=.tmp (t:=6) rfl) ⟨_,⟨by rw [hft];rfl,rfl⟩,Am.auto⟩
 ·rw [if_neg (fun h=>he h.1)] at hft
  refine .sr (.assign ?_)
  refine .alloc z75 fun b5=>?_
  refine .assign (.x (.move (.move ?_)))
  refine .call (hc:=Tryz.call125) (sp:=fsLeads (f:=f) (s:=s) (a:=a) (c:=c) (mp:=mp) (b:=b) (ov:=ov) (dead:=dead) (p:=p) (T:=T) (F0:=F0) (W:=W) (op:=op) (path:=path) ho hT hpl) (h:=?_)
  rintro _ _ ⟨rfl,rfl⟩
  rw [hlt]
  refine .move ?_
  refine .extract ?_
  refine .extract ?_
  refine .extract ?_
  refine .alloc z75 fun b8=>?_
  refine .assign ?_
  refine .stV ?_ agg75
  refine .assign (.z (.seq (.sr (.move ?_))))
  refine .eqi ?_
  refine .move ?_
  refine .cast (d:=19) (u:=.bool false) rfl (congrArg Value.bool (by first|simp;done|simp;omega|omega)) ?_
  refine .gF ?_
  refine .gF ?_
  refine .gF ?_
  refine .pickF ?_
  refine .z ?_
  refine .condF rfl rfl ?_
  refine .skip (.next (.seq ?_))
  refine .dr ([pt b8 (.cells #[nI k,nI z] 75 (0,0))]) [] 6 mixed .autoJ ?_
  refine .tk 0 rfl .move ?_
  refine .tk 1 rfl (.ldA agg75) ?_
  refine .tk 2 rfl .move ?_
  refine .tk 3 rfl .assign ?_
  refine .on 4 rfl fun hnp=>?_
  refine .stV ?_ agg75
  refine .nil (.wa hnp ?_)
  refine .tk 5 rfl .assign ?_
  refine .fin ?_
  refine .next ?_
  refine .ret (?_)
  exact .ret3 (h1:=.tmp (t:=4) rfl) (h3:=.tmp (t:=6) rfl) ⟨_,⟨by rw [hft];rfl,rfl⟩,Am.auto⟩
theorem fsParent {f s a c mp:Nat} {b ov dead:Bool} {p:Pl} {T:FT} {F0:FM} {W:Nat} {op:Bool} {path:Bytes} (ho:PlOk p) (hT:TOk T) (hpl:path.length<=1000000):Spec Tryz.prog 107 #[.pointer (some ⟨f,0,none⟩),sv path] [pt f (fO c a s b ov dead mp),LD mp T,IN s a c p F0 (fmT T) W op] fun F v M=>v=.tuple #[nI (parentT T path).1,sv (parentT T path).2.1,nI (parentT T path).2.2]/\M=pt f (fO c a s b ov dead mp) :: LD mp T :: IN s a c p F0 (fmT T) W op :: F:=by
 refine Spec.intro Tryz.func107 rfl rfl fun B F=>?_
 simp only [Tryz.ntmps107,List.cons_append,List.nil_append,env0,Nat.reduceAdd]
 cases hpt:partsT path with
 | none =>
  have hlt:parentT T path=(0,[],1):=by unfold parentT;rw [hpt]
  refine .sr (.assign (.assign (.assign (.x (.move ?_)))))
  refine .call (hc:=Tryz.call153) (sp:=fsPartsNo hpl hpt) (h:=?_)
  rintro _ _ ⟨rfl,rfl⟩
  refine .move ?_
  refine .extract ?_
  refine .extract ?_
  refine .assign (.assign (.z (.seq (.sr (.move ?_)))))
  refine .nei ?_
  refine .z ?_
  refine .condT rfl (congrArg Value.bool (by first|simp;done|simp;omega|omega)) ?_
  refine .sr (.move (.assign (.assign (.assign (.z ?_)))))
  refine .ret (.thenRet (?_))
  exact .ret3 (h1:=.tmp (t:=4) rfl) (h2:=.tmp (t:=5) rfl) (h3:=.tmp (t:=6) rfl) ⟨_,⟨by rw [hlt];rfl,rfl⟩,Am.auto⟩
 | some l =>
  have hl8:=partsT_len hpt
  by_cases hl0:l=[]
  ·have hl00:l.length=0:=by rw [hl0];rfl
   have hlt:parentT T path=(0,[],1):=by unfold parentT;simp only [hpt];rw [if_pos hl0]
   refine .sr (.assign (.assign (.assign (.x (.move ?_)))))
   refine .call (hc:=Tryz.call153) (sp:=fsParts hpl hpt) (h:=?_)
   rintro _ _ ⟨u,rfl,rfl⟩
   refine .fact (rowR_shape (el:=9) (size:=1) (v:=u) (k:=l.length) (xs:=svs l)) (fun ⟨A,cc,hu,hR,hc1,hc2,hlen⟩=>?_)
   subst hu
   refine .move ?_
   refine .extract ?_
   refine .extract ?_
   refine .assign (.assign (.z (.seq (.sr (.move ?_)))))
   refine .nei ?_
   refine .z ?_
   refine .condF rfl (congrArg Value.bool (by first|simp;done|simp;omega|omega)) ?_
   refine .skip (.next (.seq (.sr (.move ?_))))
   refine .lenS ?_ sl216
   refine .eqi ?_
   refine .z ?_
   refine .condT rfl (congrArg Value.bool (by first|simp;done|simp;omega|omega)) ?_
   refine .sr (.assign (.assign (.assign (.z ?_))))
   refine .ret (.thenRet (?_))
   exact .ret3 (h1:=.tmp (t:=4) rfl) (h2:=.tmp (t:=5) rfl) (h3:=.tmp (t:=6) rfl) ⟨_,⟨by rw [hlt];rfl,rfl⟩,Am.auto⟩
  ·obtain ⟨N,hN⟩:∃ N,l.length=N+1:=⟨l.length - 1,by have:=List.length_pos_iff.2 hl0;omega⟩
   have hdl:l.dropLast=l.take N:=by rw [List.dropLast_eq_take,hN];rfl
   have hgl:l.getLastD []=l[N]'(by omega):=by
    have e1:l[l.length - 1]?=some (l[N]'(by omega)):=by rw [show l.length - 1=N from by omega];exact List.getElem?_eq_getElem _
    rw [List.getLastD_eq_getLast?,List.getLast?_eq_getElem?,e1];rfl
   obtain ⟨d,e,hw⟩:∃ d e,walkT T 0 (l.take N)=(d,e):=⟨_,_,rfl⟩
   have hlt:parentT T path=if e=0 then (match T d with | some (.dir _)=>(d,l[N]'(by omega),0) | _=>(0,[],6)) else (0,[],e):=by unfold parentT;simp only [hpt];rw [if_neg hl0,hdl,hgl,hw];first | done | rfl
   have htl:(svs l).take N=svs (l.take N):=List.map_take.symm
   by_cases he:e=0
   ·subst he
    rw [if_pos rfl] at hlt
    cases hTi:T d with
    | none =>
     simp only [hTi] at hlt
     refine .sr (.assign (.assign (.assign (.x (.move ?_)))))
     refine .call (hc:=Tryz.call153) (sp:=fsParts hpl hpt) (h:=?_)
     rintro _ _ ⟨u,rfl,rfl⟩
     refine .fact (rowR_shape (el:=9) (size:=1) (v:=u) (k:=l.length) (xs:=svs l)) (fun ⟨A,cc,hu,hR,hc1,hc2,hlen⟩=>?_)
     subst hu
     rcases A with _ | ⟨ab,ao,asp⟩
     ·exact absurd hR (fun h=>by have h2:svs l=[]:=h;have hll:=svs_length l;rw [h2] at hll;simp at hll;omega)
     have hsp:asp=none:=hR.1
     subst hsp
     refine .move ?_
     refine .extract ?_
     refine .extract ?_
     refine .assign (.assign (.z (.seq (.sr (.move ?_)))))
     refine .nei ?_
     refine .z ?_
     refine .condF rfl (congrArg Value.bool (by first|simp;done|simp;omega|omega)) ?_
     refine .skip (.next (.seq (.sr (.move ?_))))
     refine .lenS ?_ sl216
     refine .eqi ?_
     refine .z ?_
     refine .condF rfl (congrArg Value.bool (by first|simp;done|simp;omega|omega)) ?_
     refine .skip (.next (.sr (.move ?_)))
     refine .lenS ?_ sl216
     refine .sub ?_
     refine .cast (d:=24) (u:=.int .i64 (N:Int)) rfl (congrArg (Value.int .i64) (by omega)) ?_
     refine .assign (.z (.seq (.sr (.move (.move (.move ?_))))))
     refine .slcH ?_ so216
     refine .call (hc:=Tryz.call154) (sp:=fsWalk (f:=f) (s:=s) (a:=a) (c:=c) (mp:=mp) (b:=b) (ov:=ov) (dead:=dead) (p:=p) (T:=T) (F0:=F0) (W:=W) (op:=op) (l:=l.take N) (R:=rowR 9 1 (.slice (some ⟨ab,ao,none⟩) l.length cc) l.length (svs l)) ho hT (.inl (htl ▸ hR.take N)) (by rw [List.length_take];omega) (by omega)) (h:=?_)
     rintro _ _ ⟨rfl,rfl⟩
     rw [hw]
     refine .move ?_
     refine .extract ?_
     refine .extract ?_
     refine .assign (.assign (.x (.move ?_)))
     refine .nei ?_
     refine .z ?_
     refine .condF rfl (congrArg Value.bool (by first|simp;done|simp;omega|omega)) ?_
     refine .skip (.next (.seq (.sr (.move ?_))))
     refine .nilCheck ?_
     refine .fa ?_ fo81_2
     refine .ld ?_ sc78
     refine .move ?_
     refine .call (hc:=Tryz.call155) (sp:=nStatTNo (s:=s) (a:=a) (c:=c) (p:=p) (F0:=F0) (T:=T) (W:=W) (op:=op) (i:=d) ho hTi) (h:=?_)
     rintro _ _ ⟨rfl,rfl⟩
     refine .move ?_
     refine .extract ?_
     refine .extract ?_
     refine .alloc z75 fun b9=>?_
     refine .stV ?_ agg75
     refine .assign (.x (.move ?_))
     refine .nei ?_
     refine .move ?_
     refine .cast (d:=47) (u:=.bool true) rfl (congrArg Value.bool (by first|simp;done|simp;omega|omega)) ?_
     refine .gF ?_
     refine .gF ?_
     refine .gF ?_
     refine .pickT ?_
     refine .z ?_
     refine .condT rfl rfl ?_
     refine .sr (.assign (.assign (.assign (.z ?_))))
     refine .ret (.thenRet (?_))
     exact .ret3 (h1:=.tmp (t:=4) rfl) (h2:=.tmp (t:=5) rfl) (h3:=.tmp (t:=6) rfl) ⟨_,⟨by rw [hlt];rfl,rfl⟩,Am.auto⟩
    | some x =>
     cases x with
     | file fb =>
      simp only [hTi] at hlt
      refine .sr (.assign (.assign (.assign (.x (.move ?_)))))
      refine .call (hc:=Tryz.call153) (sp:=fsParts hpl hpt) (h:=?_)
      rintro _ _ ⟨u,rfl,rfl⟩
      refine .fact (rowR_shape (el:=9) (size:=1) (v:=u) (k:=l.length) (xs:=svs l)) (fun ⟨A,cc,hu,hR,hc1,hc2,hlen⟩=>?_)
      subst hu
      rcases A with _ | ⟨ab,ao,asp⟩
      ·exact absurd hR (fun h=>by have h2:svs l=[]:=h;have hll:=svs_length l;rw [h2] at hll;simp at hll;omega)
      have hsp:asp=none:=hR.1
      subst hsp
      refine .move ?_
      refine .extract ?_
      refine .extract ?_
      refine .assign (.assign (.z (.seq (.sr (.move ?_)))))
      refine .nei ?_
      refine .z ?_
      refine .condF rfl (congrArg Value.bool (by first|simp;done|simp;omega|omega)) ?_
      refine .skip (.next (.seq (.sr (.move ?_))))
      refine .lenS ?_ sl216
      refine .eqi ?_
      refine .z ?_
      refine .condF rfl (congrArg Value.bool (by first|simp;done|simp;omega|omega)) ?_
      refine .skip (.next (.sr (.move ?_)))
      refine .lenS ?_ sl216
      refine .sub ?_
      refine .cast (d:=24) (u:=.int .i64 (N:Int)) rfl (congrArg (Value.int .i64) (by omega)) ?_
      refine .assign (.z (.seq (.sr (.move (.move (.move ?_))))))
      refine .slcH ?_ so216
      refine .call (hc:=Tryz.call154) (sp:=fsWalk (f:=f) (s:=s) (a:=a) (c:=c) (mp:=mp) (b:=b) (ov:=ov) (dead:=dead) (p:=p) (T:=T) (F0:=F0) (W:=W) (op:=op) (l:=l.take N) (R:=rowR 9 1 (.slice (some ⟨ab,ao,none⟩) l.length cc) l.length (svs l)) ho hT (.inl (htl ▸ hR.take N)) (by rw [List.length_take];omega) (by omega)) (h:=?_)
      rintro _ _ ⟨rfl,rfl⟩
      rw [hw]
      refine .move ?_
      refine .extract ?_
      refine .extract ?_
      refine .assign (.assign (.x (.move ?_)))
      refine .nei ?_
      refine .z ?_
      refine .condF rfl (congrArg Value.bool (by first|simp;done|simp;omega|omega)) ?_
      refine .skip (.next (.seq (.sr (.move ?_))))
      refine .nilCheck ?_
      refine .fa ?_ fo81_2
      refine .ld ?_ sc78
      refine .move ?_
      refine .call (hc:=Tryz.call155) (sp:=nStatT (s:=s) (a:=a) (c:=c) (p:=p) (F0:=F0) (T:=T) (W:=W) (op:=op) (i:=d) ho hTi) (h:=?_)
      rintro _ _ ⟨rfl,rfl⟩
      simp only [NodeT.kind,NodeT.size]
      refine .move ?_
      refine .extract ?_
      refine .extract ?_
      refine .alloc z75 fun b9=>?_
      refine .stV ?_ agg75
      refine .assign (.x (.move ?_))
      refine .nei ?_
      refine .move ?_
      refine .cast (d:=47) (u:=.bool false) rfl (congrArg Value.bool (by first|simp;done|simp;omega|omega)) ?_
      refine .gT ?_
      refine .fa ?_ fo75_0
      refine .gT ?_
      refine .ld ?_ sc3
      refine .gT ?_
      refine .nei ?_
      refine .pickF ?_
      refine .z ?_
      refine .condT rfl (congrArg Value.bool (by first|simp;done|simp;omega|omega)) ?_
      refine .sr (.assign (.assign (.assign (.z ?_))))
      refine .ret (.thenRet (?_))
      exact .ret3 (h1:=.tmp (t:=4) rfl) (h2:=.tmp (t:=5) rfl) (h3:=.tmp (t:=6) rfl) ⟨_,⟨by rw [hlt];rfl,rfl⟩,Am.auto⟩
     | dir sl =>
      simp only [hTi] at hlt
      have hgk:(svs l)[((N:Nat):Int).toNat]?=some (sv (l[N]'(by omega))):=svs_get (by omega)
      refine .sr (.assign (.assign (.assign (.x (.move ?_)))))
      refine .call (hc:=Tryz.call153) (sp:=fsParts hpl hpt) (h:=?_)
      rintro _ _ ⟨u,rfl,rfl⟩
      refine .fact (rowR_shape (el:=9) (size:=1) (v:=u) (k:=l.length) (xs:=svs l)) (fun ⟨A,cc,hu,hR,hc1,hc2,hlen⟩=>?_)
      subst hu
      rcases A with _ | ⟨ab,ao,asp⟩
      ·exact absurd hR (fun h=>by have h2:svs l=[]:=h;have hll:=svs_length l;rw [h2] at hll;simp at hll;omega)
      have hsp:asp=none:=hR.1
      subst hsp
      refine .move ?_
      refine .extract ?_
      refine .extract ?_
      refine .assign (.assign (.z (.seq (.sr (.move ?_)))))
      refine .nei ?_
      refine .z ?_
      refine .condF rfl (congrArg Value.bool (by first|simp;done|simp;omega|omega)) ?_
      refine .skip (.next (.seq (.sr (.move ?_))))
      refine .lenS ?_ sl216
      refine .eqi ?_
      refine .z ?_
      refine .condF rfl (congrArg Value.bool (by first|simp;done|simp;omega|omega)) ?_
      refine .skip (.next (.sr (.move ?_)))
      refine .lenS ?_ sl216
      refine .sub ?_
      refine .cast (d:=24) (u:=.int .i64 (N:Int)) rfl (congrArg (Value.int .i64) (by omega)) ?_
      refine .assign (.z (.seq (.sr (.move (.move (.move ?_))))))
      refine .slcH ?_ so216
      refine .call (hc:=Tryz.call154) (sp:=fsWalk (f:=f) (s:=s) (a:=a) (c:=c) (mp:=mp) (b:=b) (ov:=ov) (dead:=dead) (p:=p) (T:=T) (F0:=F0) (W:=W) (op:=op) (l:=l.take N) (R:=rowR 9 1 (.slice (some ⟨ab,ao,none⟩) l.length cc) l.length (svs l)) ho hT (.inl (htl ▸ hR.take N)) (by rw [List.length_take];omega) (by omega)) (h:=?_)
      rintro _ _ ⟨rfl,rfl⟩
      rw [hw]
      refine .move ?_
      refine .extract ?_
      refine .extract ?_
      refine .assign (.assign (.x (.move ?_)))
      refine .nei ?_
      refine .z ?_
      refine .condF rfl (congrArg Value.bool (by first|simp;done|simp;omega|omega)) ?_
      refine .skip (.next (.seq (.sr (.move ?_))))
      refine .nilCheck ?_
      refine .fa ?_ fo81_2
      refine .ld ?_ sc78
      refine .move ?_
      refine .call (hc:=Tryz.call155) (sp:=nStatT (s:=s) (a:=a) (c:=c) (p:=p) (F0:=F0) (T:=T) (W:=W) (op:=op) (i:=d) ho hTi) (h:=?_)
      rintro _ _ ⟨rfl,rfl⟩
      simp only [NodeT.kind,NodeT.size]
      refine .move ?_
      refine .extract ?_
      refine .extract ?_
      refine .alloc z75 fun b9=>?_
      refine .stV ?_ agg75
      refine .assign (.x (.move ?_))
      refine .nei ?_
      refine .move ?_
      refine .cast (d:=47) (u:=.bool false) rfl (congrArg Value.bool (by first|simp;done|simp;omega|omega)) ?_
      refine .gT ?_
      refine .fa ?_ fo75_0
      refine .gT ?_
      refine .ld ?_ sc3
      refine .gT ?_
      refine .nei ?_
      refine .pickF ?_
      refine .z ?_
      refine .condF rfl (congrArg Value.bool (by first|simp;done|simp;omega|omega)) ?_
      refine .skip (.next (.seq ?_))
      refine .dr ([rowR 9 1 (.slice (some ⟨ab,ao,none⟩) l.length cc) l.length (svs l)]) [] 8 mixed .autoJ ?_
      refine .tk 0 rfl .move ?_
      refine .tk 1 rfl .move ?_
      refine .tk 2 rfl .move ?_
      refine .tk 3 rfl (.idx1 so216) ?_
      refine .tk 4 rfl (Qt.ldR (i:=((N:Nat):Int).toNat) sc9 hR hgk) ?_
      refine .tk 5 rfl .assign ?_
      refine .tk 6 rfl .assign ?_
      refine .tk 7 rfl .assign ?_
      refine .fin ?_
      refine .next ?_
      refine .ret (?_)
      exact .ret3 (h1:=.tmp (t:=4) rfl) (h2:=.tmp (t:=5) rfl) (h3:=.tmp (t:=6) rfl) ⟨_,⟨by rw [hlt];rfl,rfl⟩,Am.auto⟩
   ·rw [if_neg he] at hlt
    refine .sr (.assign (.assign (.assign (.x (.move ?_)))))
    refine .call (hc:=Tryz.call153) (sp:=fsParts hpl hpt) (h:=?_)
    rintro _ _ ⟨u,rfl,rfl⟩
    refine .fact (rowR_shape (el:=9) (size:=1) (v:=u) (k:=l.length) (xs:=svs l)) (fun ⟨A,cc,hu,hR,hc1,hc2,hlen⟩=>?_)
    subst hu
    rcases A with _ | ⟨ab,ao,asp⟩
    ·exact absurd hR (fun h=>by have h2:svs l=[]:=h;have hll:=svs_length l;rw [h2] at hll;simp at hll;omega)
    have hsp:asp=none:=hR.1
    subst hsp
    refine .move ?_
    refine .extract ?_
    refine .extract ?_
    refine .assign (.assign (.z (.seq (.sr (.move ?_)))))
    refine .nei ?_
    refine .z ?_
    refine .condF rfl (congrArg Value.bool (by first|simp;done|simp;omega|omega)) ?_
    refine .skip (.next (.seq (.sr (.move ?_))))
    refine .lenS ?_ sl216
    refine .eqi ?_
    refine .z ?_
    refine .condF rfl (congrArg Value.bool (by first|simp;done|simp;omega|omega)) ?_
    refine .skip (.next (.sr (.move ?_)))
    refine .lenS ?_ sl216
    refine .sub ?_
    refine .cast (d:=24) (u:=.int .i64 (N:Int)) rfl (congrArg (Value.int .i64) (by omega)) ?_
    refine .assign (.z (.seq (.sr (.move (.move (.move ?_))))))
    refine .slcH ?_ so216
    refine .call (hc:=Tryz.call154) (sp:=fsWalk (f:=f) (s:=s) (a:=a) (c:=c) (mp:=mp) (b:=b) (ov:=ov) (dead:=dead) (p:=p) (T:=T) (F0:=F0) (W:=W) (op:=op) (l:=l.take N) (R:=rowR 9 1 (.slice (some ⟨ab,ao,none⟩) l.length cc) l.length (svs l)) ho hT (.inl (htl ▸ hR.take N)) (by rw [List.length_take];omega) (by omega)) (h:=?_)
    rintro _ _ ⟨rfl,rfl⟩
    rw [hw]
    refine .move ?_
    refine .extract ?_
    refine .extract ?_
    refine .assign (.assign (.x (.move ?_)))
    refine .nei ?_
    refine .z ?_
    refine .condT rfl (congrArg Value.bool (by first|simp;done|simp;omega|omega)) ?_
    refine .sr (.move (.assign (.assign (.assign (.z ?_)))))
    refine .ret (.thenRet (?_))
    exact .ret3 (h1:=.tmp (t:=4) rfl) (h2:=.tmp (t:=5) rfl) (h3:=.tmp (t:=6) rfl) ⟨_,⟨by rw [hlt];rfl,rfl⟩,Am.auto⟩
theorem fo81_5 :fieldOk Tryz.prog 81 5 5=true:=by kernel_rfl
theorem fo81_3 :fieldOk Tryz.prog 81 3 3=true:=by kernel_rfl
def bun (Ls:List HP):HP:=fun h=>∃ _:Unit,True/\star Ls h
theorem bun.opens (Ls:List HP):Opens (bun Ls) (fun _:Unit=>True) (fun _=>Ls):=⟨fun h hh=>hh,fun x hp h hh=>⟨x,hp,hh⟩⟩
attribute [irreducible] bun
theorem fsGone {f s a c mp:Nat} {b ov dead:Bool}:Spec Tryz.prog 118 #[.pointer (some ⟨f,0,none⟩)] [pt f (fO c a s b ov dead mp)] fun F v M=>v=.bool dead/\M=pt f (fO c a s b ov dead mp) :: F:=by
 refine Spec.intro Tryz.func118 rfl rfl fun B F=>?_
 simp only [Tryz.ntmps118,List.cons_append,List.nil_append,env0,Nat.reduceAdd]
 refine .sr (.assign (.x (.move ?_)))
 refine .eqNil ?_ ptr24
 refine .move ?_
 refine .gT ?_
 refine .move ?_
 refine .gT ?_
 refine .nilCheck ?_
 refine .gT ?_
 refine .fa ?_ fo81_0
 refine .gT ?_
 refine .ld ?_ sc76
 refine .gT ?_
 refine .eqNil ?_ ptr76
 refine .pickF ?_
 refine .move ?_
 refine .gT ?_
 refine .move ?_
 refine .gT ?_
 refine .nilCheck ?_
 refine .gT ?_
 refine .fa ?_ fo81_5
 refine .gT ?_
 refine .ld ?_ sc4
 refine .pickF ?_
 refine .assign (.z ?_)
 refine .ret (?_)
 exact .ret1 (h1:=.tmp (t:=2) rfl) ⟨_,⟨rfl,rfl⟩,Am.auto⟩
theorem fsForget {f s a c mp:Nat} {b ov dead:Bool} {T S:FT}:Spec Tryz.prog 119 #[.pointer (some ⟨f,0,none⟩)] [pt f (fO c a s b ov dead mp),LD mp S] fun F v M=>v=.tuple #[]/\M=pt f (fO c a s b ov dead mp) :: LD mp T :: F:=by
 refine Spec.intro Tryz.func119 rfl rfl fun B F=>?_
 simp only [Tryz.ntmps119,List.cons_append,List.nil_append,env0,Nat.reduceAdd]
 refine .openR (LD.opens mp S) fun y hy=>?_
 obtain ⟨es,cl,kv⟩:=y
 simp only [List.cons_append,List.nil_append]
 refine .region (.move ?_)
 refine .nilCheck ?_
 refine .fa ?_ fo81_6
 refine .ld ?_ sc79
 refine .clearM ?_ mp79
 refine .nil ?_
 refine .shutR (LD.opens mp T) (#[],cl,[]) (LDP.empty T cl) ?_
 exact .ret0 ⟨_,⟨rfl,rfl⟩,Am.auto⟩
theorem fsForgetD {f s a c mp:Nat} {b ov dead:Bool} {T S:FT}:SpecD Tryz.prog 119 #[.pointer (some ⟨f,0,none⟩)] [pt f (fO c a s b ov dead mp),LD mp S] fun F v M=>v=.tuple #[]/\M=pt f (fO c a s b ov dead mp) :: LD mp T :: F:=by
 refine SpecD.intro Tryz.func119 rfl rfl fun B F=>?_
 simp only [Tryz.ntmps119,List.cons_append,List.nil_append,env0,Nat.reduceAdd]
 refine .openR (LD.opens mp S) fun y hy=>?_
 obtain ⟨es,cl,kv⟩:=y
 simp only [List.cons_append,List.nil_append]
 refine .region (.move ?_)
 refine .nilCheck ?_
 refine .fa ?_ fo81_6
 refine .ld ?_ sc79
 refine .clearM ?_ mp79
 refine .nil ?_
 refine .shutR (LD.opens mp T) (#[],cl,[]) (LDP.empty T cl) ?_
 exact .ret0 ⟨_,⟨rfl,rfl⟩,Am.auto⟩
theorem fsEnd {f s a c mp:Nat} {b ov dead:Bool} {T S:FT} {p:Pl} {F0 Fm:FM} {W:Nat} (ho:PlOk p):Spec Tryz.prog 121 #[.pointer (some ⟨f,0,none⟩)] [pt f (fO c a s b ov dead mp),LD mp S,IN s a c p F0 Fm W true] fun F v M=>v=okV/\M=pt f (fO c a s b ov dead mp) :: LD mp T :: IN s a c p Fm Fm 0 false :: F:=by
 refine Spec.intro Tryz.func121 rfl rfl fun B F=>?_
 simp only [Tryz.ntmps121,List.cons_append,List.nil_append,env0,Nat.reduceAdd]
 refine .sr (.assign (.x (.move ?_)))
 refine .call (hc:=Tryz.call119) (sp:=fsForget (f:=f) (s:=s) (a:=a) (c:=c) (mp:=mp) (b:=b) (ov:=ov) (dead:=dead) (S:=S) (T:=T)) (h:=?_)
 rintro _ _ ⟨rfl,rfl⟩
 refine .x (.move ?_)
 refine .nilCheck ?_
 refine .fa ?_ fo81_0
 refine .ld ?_ sc76
 refine .call (hc:=Tryz.call50) (sp:=nCommit (s:=s) (a:=a) (c:=c) (p:=p) (F0:=F0) (F:=Fm) (W:=W) ho) (h:=?_)
 rintro _ _ ⟨rfl,rfl⟩
 refine .assign (.z (.seq (.sr (.move ?_))))
 refine .eqi ?_
 refine .z ?_
 refine .condF rfl (congrArg Value.bool (by first|simp;done|simp;omega|omega)) ?_
 refine .skip (.next (.sr (.move (.assign (.z ?_)))))
 refine .ret (?_)
 exact .ret1 (h1:=.tmp (t:=2) rfl) ⟨_,⟨rfl,rfl⟩,Am.auto⟩
theorem fsChange {f s a c mp:Nat} {p:Pl} {T S:FT} {F1:FM} {W:Nat} {R R':HP} {k:FuncId} {cap:Array Value} (ho:PlOk p) (hc:∀ args w,(callFunc k args).run Tryz.prog w=.ok (.enter k args) w)
  (sp:Spec Tryz.prog k cap [pt f (fO c a s false false false mp),LD mp S,IN s a c p (fmT S) (fmT S) 0 true,R] fun F v M=>v=okV/\M=pt f (fO c a s false false false mp) :: LD mp S :: IN s a c p (fmT S) F1 W true :: R' :: F):Spec Tryz.prog 63 #[.pointer (some ⟨f,0,none⟩),.func (.func k) #[] cap] [pt f (fO c a s false false false mp),LD mp S,IN s a c p (fmT S) (fmT S) 0 false,R] fun F v M=>v=okV/\M=pt f (fO c a s false false false mp) :: LD mp T :: IN s a c p F1 F1 0 false :: R' :: F:=by
 refine Spec.introD Tryz.func63 rfl rfl fun B F=>?_
 simp only [Tryz.ntmps63,List.cons_append,List.nil_append,env0,Nat.reduceAdd]
 have sp':=sp
 rw [show cap=(([]:List Value)).toArray++cap from by simp] at sp'
 refine .sr (.assign (.z (.seq (.sr (.move ?_)))))
 refine .call (hc:=Tryz.call118) (sp:=fsGone (f:=f) (s:=s) (a:=a) (c:=c) (mp:=mp) (b:=false) (ov:=false) (dead:=false)) (h:=?_)
 rintro _ _ ⟨rfl,rfl⟩
 refine .z ?_
 refine .condF rfl rfl ?_
 refine .skip (.next (.sr (.move ?_)))
 refine .call (hc:=Tryz.call119) (sp:=fsForget (f:=f) (s:=s) (a:=a) (c:=c) (mp:=mp) (b:=false) (ov:=false) (dead:=false) (S:=S) (T:=S)) (h:=?_)
 rintro _ _ ⟨rfl,rfl⟩
 refine .x (.move ?_)
 refine .defer ?_
 refine .z (.seq (.sr (.move ?_)))
 refine .nilCheck ?_
 refine .fa ?_ fo81_3
 refine .ld ?_ sc4
 refine .not ?_
 refine .z ?_
 refine .condT rfl rfl ?_
 refine .sr (.move ?_)
 refine .nilCheck ?_
 refine .fa ?_ fo81_0
 refine .ld ?_ sc76
 refine .call (hc:=Tryz.call44) (sp:=nBegin (s:=s) (a:=a) (c:=c) (p:=p) (F0:=fmT S) (F:=fmT S) (W:=0)) (h:=?_)
 rintro _ _ ⟨rfl,rfl⟩
 refine .z (.seq (.sr (.move ?_)))
 refine .callV (hc:=hc) (sp:=sp') (h:=?_)
 rintro _ _ ⟨rfl,rfl⟩
 refine .assign (.x (.move ?_))
 refine .nei ?_
 refine .z ?_
 refine .condF rfl (congrArg Value.bool (by first|simp;done|simp;omega|omega)) ?_
 refine .skip (.next (.sr (.move ?_)))
 refine .call (hc:=Tryz.call121) (sp:=fsEnd (f:=f) (s:=s) (a:=a) (c:=c) (mp:=mp) (b:=false) (ov:=false) (dead:=false) (p:=p) (S:=S) (T:=S) (F0:=fmT S) (Fm:=F1) (W:=W) ho) (h:=?_)
 rintro _ _ ⟨rfl,rfl⟩
 refine .assign (.z ?_)
 refine .ret (.thenRet (?_))
 refine .retD1 (t:=4) (hc:=Tryz.call119) (sp:=fsForgetD (f:=f) (s:=s) (a:=a) (c:=c) (mp:=mp) (b:=false) (ov:=false) (dead:=false) (S:=S) (T:=T)) (fun v' M' h=>?_)
 obtain ⟨_,rfl⟩:=h
 exact ⟨_,⟨rfl,rfl⟩,Am.auto⟩
theorem sc24 :scalarOk Tryz.prog 24=true:=by kernel_rfl
theorem sc83 :scalarOk Tryz.prog 83=true:=by kernel_rfl
theorem findT_no {T:FT} {d:Nat} {nm:Bytes} {sl:List Slot} (h:(findT T d nm).2=4) (hd:T d=some (.dir sl)):nameOk nm=true/\lookS nm sl=none:=by
 unfold findT at h
 split at h
 ·rename_i hn
  refine ⟨hn,?_⟩
  simp only [hd] at h
  split at h
  ·cases h
  ·assumption
 ·cases h
def NodeT.empty :NodeT->Prop
 | .file b=>b=[]
 | .dir sl=>sl=[]
theorem NodeT.empty_f {x:NodeT} (h:x.empty):x.f=(x.kind,[]):=by
 cases x with
 | file b=>cases h;rfl
 | dir sl=>cases h;rfl
def mkT (T:FT) (d:Nat) (sl:List Slot) (nm:Bytes) (i:Nat) (x:NodeT):FT:=updT (updT T i (some x)) d (some (.dir (setS sl (freeS sl) (some (nm,i)))))
theorem fsMakeC {f s a c mp:Nat} {p:Pl} {T:FT} {path:Bytes} {bp bf bk kind:Nat} (ho:PlOk p) (hT:TOk T) (hpl:path.length<=1000000) {d i:Nat} {nm:Bytes} {sl:List Slot} {x:NodeT} (hp:path≠[47]) (hpar:parentT T path=(d,nm,0)) (hfi:findT T d nm=(0,4)) (hd:T d=some (.dir sl)) (hi:i < p.ino) (hTi:T i=none) (hb:∀ j < i,T j≠none) (hx:x.empty) (hk:x.kind=kind) (hw:Rw p 0 14) (hfit:tot (fmT T) p.ino+has (max (64 * sl.length) (64 * freeS sl+64))<=p.dc+has (64 * sl.length)):Spec Tryz.prog 106 #[.pointer (some ⟨bp,0,none⟩),.pointer (some ⟨bf,0,none⟩),.pointer (some ⟨bk,0,none⟩)] [pt f (fO c a s false false false mp),LD mp T,IN s a c p (fmT T) (fmT T) 0 true,bun [pt bp (.cells #[sv path] 9 (0,0)),pt bf (.cells #[.pointer (some ⟨f,0,none⟩)] 24 (0,0)),pt bk (.cells #[nI kind] 3 (0,0))]] fun F v M=>v=okV/\M=pt f (fO c a s false false false mp) :: LD mp T :: IN s a c p (fmT T) (fmT (mkT T d sl nm i x)) 9 true :: bun [pt bp (.cells #[sv path] 9 (0,0)),pt bf (.cells #[.pointer (some ⟨f,0,none⟩)] 24 (0,0)),pt bk (.cells #[nI kind] 3 (0,0))] :: F:=by
 refine Spec.intro Tryz.func106 rfl rfl fun B F=>?_
 simp only [Tryz.ntmps106,List.cons_append,List.nil_append,env0,Nat.reduceAdd]
 refine .openR (bun.opens _) fun _ _=>?_
 simp only [List.cons_append,List.nil_append]
 have hlk:=findT_no (by rw [hfi]) hd
 have hto:=hT d sl hd
 have hfl:=freeS_le sl
 have hne:d≠i:=fun h=>by rw [h,hTi] at hd;cases hd
 have hx0:x.f=(kind,[]):=by rw [NodeT.empty_f hx,hk]
 have hk12:kind=1 ∨ kind=2:=by
  rw [<- hk]
  cases x with
  | file b=>exact .inl rfl
  | dir sl=>exact .inr rfl
 have hF1:updM (fmT T) i (some (kind,[]))=fmT (updT T i (some x)):=by rw [<- hx0,fmT_updS]
 have hi32:i < 4294967296:=by have:=ho.i2;omega
 have htot:tot (fmT (updT T i (some x))) p.ino=tot (fmT T) p.ino:=by
  have h:=tot_upd' (fmT T) hi (some (kind,[]))
  rw [hF1,fmT_none hTi] at h
  have h1:hasO none=0:=rfl
  have h2:hasO (some (kind,([]:Bytes)))=0:=by show has 0=0;rfl
  omega
 have hd1:fmT (updT T i (some x)) d=some (2,dirB sl):=by
  have:updT T i (some x) d=some (.dir sl):=by rw [updT_other _ _ hne];exact hd
  exact fmT_some this
 refine .sr (.assign (.z (.seq (.sr ?_))))
 refine .ld ?_ sc9
 refine .eqS path [47] ?_
 refine .cast (d:=11) (u:=.bool false) rfl (congrArg Value.bool (decide_eq_false hp)) ?_
 refine .z ?_
 refine .condF rfl rfl ?_
 refine .skip (.next (.sr ?_))
 refine .ld ?_ sc24
 refine .ld ?_ sc9
 refine .call (hc:=Tryz.call107) (sp:=fsParent (f:=f) (s:=s) (a:=a) (c:=c) (mp:=mp) (b:=false) (ov:=false) (dead:=false) (p:=p) (T:=T) (F0:=fmT T) (W:=0) (op:=true) (path:=path) ho hT hpl) (h:=?_)
 rintro _ _ ⟨rfl,rfl⟩
 rw [hpar]
 refine .move ?_
 refine .extract ?_
 refine .extract ?_
 refine .extract ?_
 refine .assign (.assign (.assign (.z (.seq (.sr (.move ?_))))))
 refine .nei ?_
 refine .z ?_
 refine .condF rfl (congrArg Value.bool (by first|simp;done|simp;omega|omega)) ?_
 refine .skip (.next (.seq (.sr ?_)))
 refine .ld ?_ sc24
 refine .move (.move ?_)
 refine .call (hc:=Tryz.call108) (sp:=fsFind (f:=f) (s:=s) (a:=a) (c:=c) (mp:=mp) (b:=false) (ov:=false) (dead:=false) (p:=p) (T:=T) (F0:=fmT T) (W:=0) (op:=true) (d:=d) (nm:=nm) ho hT) (h:=?_)
 rintro _ _ ⟨rfl,rfl⟩
 rw [hfi]
 refine .move ?_
 refine .extract ?_
 refine .extract ?_
 refine .assign (.assign (.x (.move ?_)))
 refine .nei ?_
 refine .z ?_
 refine .condF rfl (congrArg Value.bool (by first|simp;done|simp;omega|omega)) ?_
 refine .skip (.next (.seq ?_))
 refine .dr ([pt bf (.cells #[.pointer (some ⟨f,0,none⟩)] 24 (0,0)),pt bk (.cells #[nI kind] 3 (0,0)),pt f (fO c a s false false false mp)]) [] 11 mixed .autoJ ?_
 refine .tk 0 rfl (.ld sc24) ?_
 refine .tk 1 rfl .nilCheck ?_
 refine .tk 2 rfl (.fa fo81_2) ?_
 refine .tk 3 rfl (.ld sc78) ?_
 refine .tk 4 rfl (.ld sc3) ?_
 refine .on 5 rfl fun hnp=>?_
 refine .call (hc:=Tryz.call109) (sp:=nMake (s:=s) (a:=a) (c:=c) (p:=p) (F0:=fmT T) (F:=fmT T) (W:=0) (i:=i) (k:=kind) ho hk12 (hw.less (by omega)) hi (fmT_none hTi) (fun j hj h=>by have:=hb j hj;unfold fmT at h;cases hj2:T j with | none=>exact this hj2 | some y=>rw [hj2] at h;cases h)) (h:=?_)
 rintro _ _ ⟨rfl,rfl⟩
 rw [hF1]
 refine .nil (.wa hnp ?_)
 refine .tk 6 rfl .move ?_
 refine .tk 7 rfl .extract ?_
 refine .tk 8 rfl .extract ?_
 refine .tk 9 rfl .assign ?_
 refine .tk 10 rfl .assign ?_
 refine .fin ?_
 refine .next (.seq (.sr (.move ?_)))
 refine .nei ?_
 refine .z ?_
 refine .condF rfl (congrArg Value.bool (by first|simp;done|simp;omega|omega)) ?_
 refine .skip (.next (.sr ?_))
 refine .ld ?_ sc24
 refine .nilCheck ?_
 refine .fa ?_ fo81_2
 refine .ld ?_ sc78
 refine .move (.move (.move ?_))
 refine .call (hc:=Tryz.call110) (sp:=dAdd (s:=s) (a:=a) (c:=c) (p:=p) (F0:=fmT T) (Fm:=fmT (updT T i (some x))) (W:=0+1) (d:=d) (nm:=nm) (sl:=sl) ho hlk.1 hd1 hto.1 (by omega) (lookS_none hlk.2) (i:=i) hi32 (by unfold Rw at hw ⊢;omega) (by omega) (by rw [htot];exact hfit)) (h:=?_)
 rintro _ _ ⟨rfl,rfl⟩
 rw [show updM (fmT (updT T i (some x))) d (some (2,dirB (setS sl (freeS sl) (some (nm,i)))))=(fmT (mkT T d sl nm i x)) from fmT_updS _ _ (.dir _)]
 refine .assign (.z ?_)
 refine .ret (?_)
 refine .shutR (bun.opens [pt bp (.cells #[sv path] 9 (0,0)),pt bf (.cells #[.pointer (some ⟨f,0,none⟩)] 24 (0,0)),pt bk (.cells #[nI kind] 3 (0,0))]) () trivial ?_
 exact .ret1 (h1:=.tmp (t:=3) rfl) ⟨_,⟨rfl,rfl⟩,Am.auto⟩
def fsLs (f:Nat) (p:Pl) (T:FT) (y:Nat×Nat×Nat×Nat):List HP:=[pt f (fO y.1 y.2.1 y.2.2.1 false false false y.2.2.2),LD y.2.2.2 T,IN y.2.2.1 y.2.1 y.1 p (fmT T) (fmT T) 0 false]
def FSR (f:Nat) (p:Pl) (T:FT):HP:=fun h=>∃ y,True/\star (fsLs f p T y) h
theorem FSR.opens (f:Nat) (p:Pl) (T:FT):Opens (FSR f p T) (fun _=>True) (fsLs f p T):=⟨fun h hh=>hh,fun x hp h hh=>⟨x,hp,hh⟩⟩
attribute [irreducible] FSR
theorem fsMake {f:Nat} {p:Pl} {T:FT} {kind:Nat} {path:Bytes} (ho:PlOk p) (hT:TOk T) (hpl:path.length<=1000000) {d i:Nat} {nm:Bytes} {sl:List Slot} {x:NodeT} (hp:path≠[47]) (hpar:parentT T path=(d,nm,0)) (hfi:findT T d nm=(0,4)) (hd:T d=some (.dir sl)) (hi:i < p.ino) (hTi:T i=none) (hb:∀ j < i,T j≠none) (hx:x.empty) (hk:x.kind=kind) (hw:Rw p 0 14) (hfit:tot (fmT T) p.ino+has (max (64 * sl.length) (64 * freeS sl+64))<=p.dc+has (64 * sl.length)):Spec Tryz.prog 54 #[.pointer (some ⟨f,0,none⟩),sv path,nI kind] [FSR f p T] fun F v M=>v=okV/\M=FSR f p (mkT T d sl nm i x) :: F:=by
 refine Spec.intro Tryz.func54 rfl rfl fun B F=>?_
 simp only [Tryz.ntmps54,List.cons_append,List.nil_append,env0,Nat.reduceAdd]
 refine .openR (FSR.opens f p T) fun y _=>?_
 obtain ⟨c,a,s,mp⟩:=y
 simp only [fsLs,List.cons_append,List.nil_append]
 refine .sr ?_
 refine .box fun b3=>?_
 refine .box fun b4=>?_
 refine .box fun b5=>?_
 refine .assign (.x ?_)
 refine .ld ?_ sc24
 refine .makeFuncB ?_
 refine .shutR (bun.opens [pt b4 (.cells #[sv path] 9 (0,0)),pt b3 (.cells #[.pointer (some ⟨f,0,none⟩)] 24 (0,0)),pt b5 (.cells #[nI kind] 3 (0,0))]) () trivial ?_
 refine .call (hc:=Tryz.call63) (sp:=fsChange (s:=s) (a:=a) (c:=c) (p:=p) (f:=f) (mp:=mp) (T:=mkT T d sl nm i x) (S:=T) ho (hc:=Tryz.call106) (sp:=(fsMakeC (bp:=b4) (bf:=b3) (bk:=b5) ho hT hpl hp hpar hfi hd hi hTi hb hx hk hw hfit))) (h:=?_)
 rintro _ _ ⟨rfl,rfl⟩
 refine .assign (.z ?_)
 refine .ret (?_)
 refine .shutR (FSR.opens f p (mkT T d sl nm i x)) (c,a,s,mp) trivial ?_
 exact .ret1 (h1:=.tmp (t:=6) rfl) ⟨_,⟨rfl,rfl⟩,Am.auto⟩
theorem fsCreate {f:Nat} {p:Pl} {T:FT} {path:Bytes} (ho:PlOk p) (hT:TOk T) (hpl:path.length<=1000000) {d i:Nat} {nm:Bytes} {sl:List Slot} {x:NodeT} (hp:path≠[47]) (hpar:parentT T path=(d,nm,0)) (hfi:findT T d nm=(0,4)) (hd:T d=some (.dir sl)) (hi:i < p.ino) (hTi:T i=none) (hb:∀ j < i,T j≠none) (hx:x.empty) (hk:x.kind=1) (hw:Rw p 0 14) (hfit:tot (fmT T) p.ino+has (max (64 * sl.length) (64 * freeS sl+64))<=p.dc+has (64 * sl.length)):Spec Tryz.prog 27 #[.pointer (some ⟨f,0,none⟩),sv path] [FSR f p T] fun F v M=>v=okV/\M=FSR f p (mkT T d sl nm i x) :: F:=by
 refine Spec.intro Tryz.func27 rfl rfl fun B F=>?_
 simp only [Tryz.ntmps27,List.cons_append,List.nil_append,env0,Nat.reduceAdd]
 refine .sr (.assign (.x (.move (.move ?_))))
 refine .call (hc:=Tryz.call54) (sp:=fsMake (f:=f) (p:=p) (T:=T) (kind:=1) ho hT hpl hp hpar hfi hd hi hTi hb hx hk hw hfit) (h:=?_)
 rintro _ _ ⟨rfl,rfl⟩
 refine .assign (.z ?_)
 refine .ret (?_)
 exact .ret1 (h1:=.tmp (t:=4) rfl) ⟨_,⟨rfl,rfl⟩,Am.auto⟩
theorem fsRead {f:Nat} {p:Pl} {T:FT} {path:Bytes} (ho:PlOk p) (hT:TOk T) (hpl:path.length<=1000000) {at' n i z:Nat} {fb:Bytes} (hft:fileT T path=(i,1,z,0)) (hTi:T i=some (.file fb)) (hat:at'<=9223372036854775807) (hn:n<=9223372036854775807):Spec Tryz.prog 37 #[.pointer (some ⟨f,0,none⟩),sv path,nI at',nI n] [FSR f p T] fun F v M=>∃ u,v=.tuple #[u,.int .i64 0]/\M=rowR 5 1 u ((fb.drop at').take n).length (bvs ((fb.drop at').take n)) :: FSR f p T :: F:=by
 refine Spec.intro Tryz.func37 rfl rfl fun B F=>?_
 simp only [Tryz.ntmps37,List.cons_append,List.nil_append,env0,Nat.reduceAdd]
 refine .openR (FSR.opens f p T) fun y _=>?_
 obtain ⟨c,a,s,mp⟩:=y
 simp only [fsLs,List.cons_append,List.nil_append]
 refine .sr (.assign (.assign (.x (.move (.move ?_)))))
 refine .call (hc:=Tryz.call65) (sp:=fsFileAt (f:=f) (s:=s) (a:=a) (c:=c) (mp:=mp) (b:=false) (ov:=false) (dead:=false) (p:=p) (T:=T) (F0:=fmT T) (W:=0) (op:=false) (path:=path) ho hT hpl) (h:=?_)
 rintro _ _ ⟨rfl,rfl⟩
 rw [hft]
 refine .move ?_
 refine .extract ?_
 refine .extract ?_
 refine .extract ?_
 refine .alloc z75 fun b11=>?_
 refine .assign ?_
 refine .stV ?_ agg75
 refine .assign (.z (.seq (.sr (.move ?_))))
 refine .nei ?_
 refine .z ?_
 refine .condF rfl (congrArg Value.bool (by first|simp;done|simp;omega|omega)) ?_
 refine .skip (.next (.sr (.move ?_)))
 refine .nilCheck ?_
 refine .fa ?_ fo81_2
 refine .ld ?_ sc78
 refine .move (.move (.move ?_))
 refine .call (hc:=Tryz.call70) (sp:=nRead (s:=s) (a:=a) (c:=c) (p:=p) (F0:=fmT T) (F:=fmT T) (W:=0) (op:=false) (i:=i) (at':=at') (k:=n) (f:=(1,fb)) ho (fmT_some hTi) hat hn) (h:=?_)
 rintro _ _ ⟨u,rfl,rfl⟩
 refine .extract ?_
 refine .extract ?_
 refine .assign (.assign (.z ?_))
 refine .ret (?_)
 refine .shutR (FSR.opens f p T) (c,a,s,mp) trivial ?_
 exact .ret2 (h1:=.tmp (t:=8) rfl) (h2:=.tmp (t:=9) rfl) ⟨_,⟨u,rfl,rfl⟩,Am.auto⟩
theorem fsEditC {f s a c mp:Nat} {p:Pl} {T:FT} {k:FuncId} {cap:Array Value} {R R2:HP} {path:Bytes} {bp bf bd:Nat} (ho:PlOk p) (hT:TOk T) (hpl:path.length<=1000000) {i z e W:Nat} {F1:FM} (hft:fileT T path=(i,1,z,0)) (hc:∀ args w,(callFunc k args).run Tryz.prog w=.ok (.enter k args) w)
  (sp:Spec Tryz.prog k (#[nI i,.agg #[nI 1,nI z]]++cap) [pt f (fO c a s false false false mp),LD mp T,IN s a c p (fmT T) (fmT T) 0 true,R] fun F v M=>v=nI e/\M=pt f (fO c a s false false false mp) :: LD mp T :: IN s a c p (fmT T) F1 W true :: R2 :: F):Spec Tryz.prog 64 #[.pointer (some ⟨bf,0,none⟩),.pointer (some ⟨bp,0,none⟩),.pointer (some ⟨bd,0,none⟩)] [pt f (fO c a s false false false mp),LD mp T,IN s a c p (fmT T) (fmT T) 0 true,bun [pt bf (.cells #[.pointer (some ⟨f,0,none⟩)] 24 (0,0)),pt bp (.cells #[sv path] 9 (0,0)),pt bd (.cells #[.func (.func k) #[] cap] 83 (0,0)),R]] fun F v M=>v=nI e/\M=pt f (fO c a s false false false mp) :: LD mp T :: IN s a c p (fmT T) F1 W true :: bun [pt bf (.cells #[.pointer (some ⟨f,0,none⟩)] 24 (0,0)),pt bp (.cells #[sv path] 9 (0,0)),pt bd (.cells #[.func (.func k) #[] cap] 83 (0,0)),R2] :: F:=by
 refine Spec.intro Tryz.func64 rfl rfl fun B F=>?_
 simp only [Tryz.ntmps64,List.cons_append,List.nil_append,env0,Nat.reduceAdd]
 refine .openR (bun.opens _) fun _ _=>?_
 simp only [List.cons_append,List.nil_append]
 refine .sr (.assign (.x ?_))
 refine .ld ?_ sc24
 refine .ld ?_ sc9
 refine .call (hc:=Tryz.call65) (sp:=fsFileAt (f:=f) (s:=s) (a:=a) (c:=c) (mp:=mp) (b:=false) (ov:=false) (dead:=false) (p:=p) (T:=T) (F0:=fmT T) (W:=0) (op:=true) (path:=path) ho hT hpl) (h:=?_)
 rintro _ _ ⟨rfl,rfl⟩
 rw [hft]
 refine .move ?_
 refine .extract ?_
 refine .extract ?_
 refine .extract ?_
 refine .alloc z75 fun b5=>?_
 refine .assign ?_
 refine .stV ?_ agg75
 refine .assign (.z (.seq (.sr (.move ?_))))
 refine .nei ?_
 refine .z ?_
 refine .condF rfl (congrArg Value.bool (by first|simp;done|simp;omega|omega)) ?_
 refine .skip (.next (.sr ?_))
 refine .ld ?_ sc83
 refine .move ?_
 refine .ldA ?_ agg75
 refine .callV (vs:=[nI i,.agg #[nI 1,nI z]]) (hc:=hc) (sp:=sp) (h:=?_)
 rintro _ _ ⟨rfl,rfl⟩
 refine .assign (.z ?_)
 refine .ret (?_)
 refine .shutR (bun.opens [pt bf (.cells #[.pointer (some ⟨f,0,none⟩)] 24 (0,0)),pt bp (.cells #[sv path] 9 (0,0)),pt bd (.cells #[.func (.func k) #[] cap] 83 (0,0)),R2]) () trivial ?_
 exact .ret1 (h1:=.tmp (t:=3) rfl) ⟨_,⟨rfl,rfl⟩,Am.auto⟩
theorem fsEdit {f s a c mp:Nat} {p:Pl} {T:FT} {k:FuncId} {cap:Array Value} {R R2:HP} {path:Bytes} (ho:PlOk p) (hT:TOk T) (hpl:path.length<=1000000) {i z W:Nat} {T2:FT} (hft:fileT T path=(i,1,z,0)) (hc:∀ args w,(callFunc k args).run Tryz.prog w=.ok (.enter k args) w)
  (sp:Spec Tryz.prog k (#[nI i,.agg #[nI 1,nI z]]++cap) [pt f (fO c a s false false false mp),LD mp T,IN s a c p (fmT T) (fmT T) 0 true,R] fun F v M=>v=okV/\M=pt f (fO c a s false false false mp) :: LD mp T :: IN s a c p (fmT T) (fmT T2) W true :: R2 :: F):Spec Tryz.prog 34 #[.pointer (some ⟨f,0,none⟩),sv path,.func (.func k) #[] cap] [pt f (fO c a s false false false mp),LD mp T,IN s a c p (fmT T) (fmT T) 0 false,R] fun F v M=>v=okV/\M=pt f (fO c a s false false false mp) :: LD mp T2 :: IN s a c p (fmT T2) (fmT T2) 0 false :: R2 :: F:=by
 refine Spec.intro Tryz.func34 rfl rfl fun B F=>?_
 simp only [Tryz.ntmps34,List.cons_append,List.nil_append,env0,Nat.reduceAdd]
 refine .sr ?_
 refine .box fun b3=>?_
 refine .box fun b4=>?_
 refine .box fun b5=>?_
 refine .assign (.x ?_)
 refine .ld ?_ sc24
 refine .makeFuncB ?_
 refine .shutR (bun.opens [pt b3 (.cells #[.pointer (some ⟨f,0,none⟩)] 24 (0,0)),pt b4 (.cells #[sv path] 9 (0,0)),pt b5 (.cells #[.func (.func k) #[] cap] 83 (0,0)),R]) () trivial ?_
 refine .call (hc:=Tryz.call63) (sp:=fsChange (s:=s) (a:=a) (c:=c) (p:=p) (f:=f) (mp:=mp) (T:=T2) (S:=T) ho (hc:=Tryz.call64) (sp:=(fsEditC (bf:=b3) (bp:=b4) (bd:=b5) (k:=k) (cap:=cap) (R:=R) ho hT hpl (e:=0) hft hc sp))) (h:=?_)
 rintro _ _ ⟨rfl,rfl⟩
 refine .assign (.z ?_)
 refine .ret (?_)
 refine .openR (bun.opens _) fun _ _=>?_
 simp only [List.cons_append,List.nil_append]
 exact .ret1 (h1:=.tmp (t:=6) rfl) ⟨_,⟨rfl,rfl⟩,Am.auto⟩
theorem fsAppendC {f s a c mp:Nat} {p:Pl} {T:FT} {x3 x5:Nat} {i m cc:Nat} {fb bs:Bytes} {R:HP} {A:Option Addr} (hTi:T i=some (.file fb)) (hR:bs=[] ∨ Reads R A (bvs bs)) (hm:bs.length=m) (hcc:m<=cc) (hcb:cc<=maxLen) (hw:Rw p 0 (has (max fb.length (fb.length+m)) - has fb.length+(m+511) / 512+10)) (hat:fb.length<=fb.length) (hbg:fb.length+m<=70656) (hfit:tot (fmT T) p.ino+has (max fb.length (fb.length+m))<=p.dc+has fb.length) (ho:PlOk p):Spec Tryz.prog 56 (#[nI i,.agg #[nI 1,nI fb.length]]++#[.pointer (some ⟨x3,0,none⟩),.pointer (some ⟨x5,0,none⟩)]) [pt f (fO c a s false false false mp),LD mp T,IN s a c p (fmT T) (fmT T) 0 true,bun [pt x3 (.cells #[.pointer (some ⟨f,0,none⟩)] 24 (0,0)),pt x5 (.cells #[.slice A m cc] 59 (0,0)),R]] fun F v M=>v=okV/\M=pt f (fO c a s false false false mp) :: LD mp T :: IN s a c p (fmT T) (fmT (updT T i (some (.file (wrB fb fb.length bs))))) (0+(has (max fb.length (fb.length+m)) - has fb.length)+(m+511) / 512+5) true :: bun [pt x3 (.cells #[.pointer (some ⟨f,0,none⟩)] 24 (0,0)),pt x5 (.cells #[.slice A m cc] 59 (0,0)),R] :: F:=by
 refine Spec.intro Tryz.func56 rfl rfl fun B F=>?_
 simp only [Tryz.ntmps56,List.cons_append,List.nil_append,env0,Nat.reduceAdd]
 refine .openR (bun.opens _) fun _ _=>?_
 simp only [List.cons_append,List.nil_append]
 refine .sr ?_
 refine .box fun b5=>?_
 refine .assign (.z (.seq ?_))
 refine .dr ([pt x3 (.cells #[.pointer (some ⟨f,0,none⟩)] 24 (0,0)),pt x5 (.cells #[.slice A m cc] 59 (0,0)),pt f (fO c a s false false false mp),pt b5 (.cells #[nI 1,nI fb.length] 75 (0,0))]) [] 10 mixed .autoJ ?_
 refine .tk 0 rfl (.ld sc24) ?_
 refine .tk 1 rfl .nilCheck ?_
 refine .tk 2 rfl (.fa fo81_2) ?_
 refine .tk 3 rfl (.ld sc78) ?_
 refine .tk 4 rfl .move ?_
 refine .tk 5 rfl (.fa fo75_1) ?_
 refine .tk 6 rfl (.ld sc3) ?_
 refine .tk 7 rfl (.ld sc59) ?_
 refine .on 8 rfl fun hnp=>?_
 refine .call (hc:=Tryz.call57) (sp:=nWrite (s:=s) (a:=a) (c:=c) (p:=p) (F0:=fmT T) (F:=fmT T) (W:=0) (i:=i) (at':=fb.length) (f:=(1,fb)) (bs:=bs) ho (fmT_some hTi) hw hR hm hcc hcb hat hbg hfit) (h:=?_)
 rintro _ _ ⟨rfl,rfl⟩
 rw [show updM (fmT T) i (some (1,wrB fb fb.length bs))=fmT (updT T i (some (.file (wrB fb fb.length bs)))) from fmT_updS T i (.file _)]
 refine .nil (.wa hnp ?_)
 refine .tk 9 rfl .assign ?_
 refine .fin ?_
 refine .next ?_
 refine .ret (?_)
 refine .shutR (bun.opens [pt x3 (.cells #[.pointer (some ⟨f,0,none⟩)] 24 (0,0)),pt x5 (.cells #[.slice A m cc] 59 (0,0)),R]) () trivial ?_
 exact .ret1 (h1:=.tmp (t:=6) rfl) ⟨_,⟨rfl,rfl⟩,Am.auto⟩
theorem fsAppend {f:Nat} {p:Pl} {T:FT} {path:Bytes} (ho:PlOk p) (hT:TOk T) (hpl:path.length<=1000000) {i m cc:Nat} {fb bs:Bytes} {R:HP} {A:Option Addr} (hft:fileT T path=(i,1,fb.length,0)) (hTi:T i=some (.file fb)) (hR:bs=[] ∨ Reads R A (bvs bs)) (hm:bs.length=m) (hcc:m<=cc) (hcb:cc<=maxLen) (hw:Rw p 0 (has (max fb.length (fb.length+m)) - has fb.length+(m+511) / 512+10)) (hat:fb.length<=fb.length) (hbg:fb.length+m<=70656) (hfit:tot (fmT T) p.ino+has (max fb.length (fb.length+m))<=p.dc+has fb.length):Spec Tryz.prog 29 #[.pointer (some ⟨f,0,none⟩),sv path,.slice A m cc] [FSR f p T,R] fun F v M=>v=okV/\M=FSR f p (updT T i (some (.file (wrB fb fb.length bs)))) :: R :: F:=by
 refine Spec.intro Tryz.func29 rfl rfl fun B F=>?_
 simp only [Tryz.ntmps29,List.cons_append,List.nil_append,env0,Nat.reduceAdd]
 refine .openR (FSR.opens f p T) fun y _=>?_
 obtain ⟨c,a,s,mp⟩:=y
 simp only [fsLs,List.cons_append,List.nil_append]
 refine .sr ?_
 refine .box fun b3=>?_
 refine .box fun b5=>?_
 refine .assign (.x ?_)
 refine .ld ?_ sc24
 refine .move ?_
 refine .makeFuncB ?_
 refine .shutR (bun.opens [pt b3 (.cells #[.pointer (some ⟨f,0,none⟩)] 24 (0,0)),pt b5 (.cells #[.slice A m cc] 59 (0,0)),R]) () trivial ?_
 refine .call (hc:=Tryz.call34) (sp:=fsEdit (s:=s) (a:=a) (c:=c) (p:=p) (f:=f) (mp:=mp) (T:=T) (T2:=(updT T i (some (.file (wrB fb fb.length bs))))) (W:=(0+(has (max fb.length (fb.length+m)) - has fb.length)+(m+511) / 512+5)) ho hT hpl hft (hc:=Tryz.call56) (sp:=fsAppendC (x3:=b3) (x5:=b5) hTi hR hm hcc hcb hw hat hbg hfit ho)) (h:=?_)
 rintro _ _ ⟨rfl,rfl⟩
 refine .assign (.z ?_)
 refine .ret (?_)
 refine .openR (bun.opens _) fun _ _=>?_
 simp only [List.cons_append,List.nil_append]
 refine .shutR (FSR.opens f p (updT T i (some (.file (wrB fb fb.length bs))))) (c,a,s,mp) trivial ?_
 exact .ret1 (h1:=.tmp (t:=6) rfl) ⟨_,⟨rfl,rfl⟩,Am.auto⟩
end Go.Proofs.YthpdeihndjhjfaaGreatDoor
end
