/- A part of the proof of lawSegTorn: texts of this work put together. -/
import Derived.Test.YthpdeihndjhjfaaGreatDoorQe4
import Derived.KernelRfl
set_option linter.unusedVariables false
set_option linter.unusedSimpArgs false
set_option linter.unusedSectionVars false
section
namespace Go.Proofs.YthpdeihndjhjfaaGreatDoor
open Go
theorem un149 :Tryz.prog.underlying 149=some (.int .u32):=by kernel_rfl
theorem fo89_0 :fieldOk Tryz.prog 89 0 0=true:=by kernel_rfl
def crcBit (c:Int):Int:=bxor .u32 (c.fdiv (2 ^ (min (1:Int).toNat IntKind.u32.bits))) (band .u32 2197175160 (IntKind.u32.wrap (0 - band .u32 c 1)))
def crc8 (c:Int):Nat->Int
 | 0=>c
 | j+1=>crcBit (crc8 c j)
def crcK (xs:Bytes) (c:Int):Nat->Int
 | 0=>c
 | k+1=>crc8 (bxor .u32 (crcK xs c k) (IntKind.u32.wrap ((xs.getD k 0).toNat:Int))) 8
def crcI (xs:Bytes):Int:=icomp .u32 (crcK xs (icomp .u32 0) xs.length)
theorem crcI_range (xs:Bytes):0<=crcI xs/\crcI xs < 4294967296:=by
 have:∀ x,0<=IntKind.u32.wrap x/\IntKind.u32.wrap x < 4294967296:=fun x=>by
  have:IntKind.u32.wrap x=x % 2 ^ 32:=by simp [IntKind.wrap,IntKind.bits,IntKind.signed]
  rw [this];omega
 exact this _
theorem crcMore {R:HP} {A:Addr} {m c:Nat} {xs:Bytes} (hR:Reads R (some A) (bvs xs)) (hm:xs.length=m) (hl:m<=1073741824):Spec Tryz.prog 144 #[.int .u32 0,.slice (some A) m c] [R] fun F v M=>v=.int .u32 (crcI xs)/\M=R :: F:=by
 refine Spec.intro Tryz.func144 rfl rfl fun B F=>?_
 simp only [Tryz.ntmps144,List.cons_append,List.nil_append,env0,Nat.reduceAdd]
 subst hm
 obtain ⟨ab,ao,asp⟩:=A
 have hsp:asp=none:=hR.1
 subst hsp
 refine .sr (.assign (.x (.move ?_)))
 refine .comp ?_
 refine .assign (.z (.seq (.sr (.move ?_))))
 refine .lenS ?_ sl59
 refine .move (.z (.block ?_))
 refine .loopA (σ:=Nat) (fun k=>[(0,.int .u32 (crcK xs (icomp .u32 0) k)),(9,.slice (some ⟨ab,ao,none⟩) xs.length c),(10,.int .i64 ((xs.length:Nat):Int)),(11,.int .i64 ((k:Nat):Int))]) (fun _=>R :: F) (fun k=>k<=xs.length) (fun k=>xs.length - k) 0 (Nat.zero_le _) ?_
 rintro k hk
 refine .sr ?_
 refine .lss ?_
 refine .z (.seq ?_)
 refine .cond rfl (fun hb=>?_) (fun hb=>?_)
 ·have hlt:k < xs.length:=by have h:(k:Int) < (xs.length:Int):=of_decide_eq_true hb;omega
  have hgk:(bvs xs)[((k:Nat):Int).toNat]?=some (.int .u8 ((xs.getD k 0).toNat:Int)):=by rw [Int.toNat_natCast];simp [bvs,hlt];rfl
  refine .skip (.next (.seq (.block (.sr ?_))))
  refine .idx1 ?_ so59
  refine .ldR (i:=((k:Nat):Int).toNat) ?_ sc5 hR hgk
  refine .assign (.x (.move (.move ?_)))
  refine .cvt ?_ un5 un149
  refine .xor ?_
  refine .assign (.x (.move (.z (.block ?_))))
  refine .loopA (σ:=Nat) (fun j=>[(0,.int .u32 (crc8 (bxor .u32 (crcK xs (icomp .u32 0) k) (IntKind.u32.wrap ((xs.getD k 0).toNat:Int))) j)),(9,.slice (some ⟨ab,ao,none⟩) xs.length c),(10,.int .i64 ((xs.length:Nat):Int)),(11,.int .i64 ((k:Nat):Int)),(19,.int .i64 ((j:Nat):Int))]) (fun _=>R :: F) (fun j=>j<=8) (fun j=>8 - j) 0 (Nat.zero_le _) ?_
  rintro j hj
  refine .sr ?_
  refine .lss ?_
  refine .z (.seq ?_)
  refine .cond rfl (fun hb2=>?_) (fun hb2=>?_)
  ·have hlt2:j < 8:=by have h:(j:Int) < 8:=of_decide_eq_true hb2;omega
   refine .skip (.next (.seq (.block (.region (.move ?_)))))
   refine .shr ?_
   refine .move ?_
   refine .and ?_
   refine .negw ?_
   refine .and ?_
   refine .xor ?_
   refine .assign (.nil (.blockNormal (.next (.region ?_))))
   refine .add ?_
   refine .move (.nil ?_)
   refine .cast (d:=19) (u:=.int .i64 ((j+1:Nat):Int)) rfl (congrArg (Value.int .i64) (by omega)) ?_
   exact .back (j+1) (by show j+1<=8;omega) (by show 8 - (j+1) < 8 - j;omega)
  ·have hge2:j=8:=by have h:¬ (j:Int) < 8:=of_decide_eq_false hb2;omega
   subst hge2
   refine .exit (.thenExit (.thenExit (.blockExit (?_))))
   refine .blockNormal (.next (.region ?_))
   refine .add ?_
   refine .move (.nil ?_)
   refine .cast (d:=11) (u:=.int .i64 ((k+1:Nat):Int)) rfl (congrArg (Value.int .i64) (by omega)) ?_
   exact .back (k+1) (by show k+1<=xs.length;omega) (by show xs.length - (k+1) < xs.length - k;omega)
 ·have hge:k=xs.length:=by have h:¬ (k:Int) < (xs.length:Int):=of_decide_eq_false hb;omega
  subst hge
  refine .exit (.thenExit (.thenExit (.blockExit (?_))))
  refine .next (.sr (.move ?_))
  refine .comp ?_
  refine .assign (.z ?_)
  refine .ret (?_)
  exact .ret1 (h1:=.tmp (t:=4) rfl) ⟨_,⟨rfl,rfl⟩,Am.auto⟩
theorem crcSum {R:HP} {A:Addr} {m c:Nat} {xs:Bytes} (hR:Reads R (some A) (bvs xs)) (hm:xs.length=m) (hl:m<=1073741824):Spec Tryz.prog 83 #[.slice (some A) m c] [R] fun F v M=>v=.int .u32 (crcI xs)/\M=R :: F:=by
 refine Spec.intro Tryz.func83 rfl rfl fun B F=>?_
 simp only [Tryz.ntmps83,List.cons_append,List.nil_append,env0,Nat.reduceAdd]
 refine .sr (.assign (.x (.move ?_)))
 refine .call (hc:=Tryz.call144) (sp:=crcMore hR hm hl) (h:=?_)
 rintro _ _ ⟨rfl,rfl⟩
 refine .assign (.z ?_)
 refine .ret (?_)
 exact .ret1 (h1:=.tmp (t:=2) rfl) ⟨_,⟨rfl,rfl⟩,Am.auto⟩
theorem u64_wrap0 {a:Nat} (h:a < 2 ^ 64):IntKind.u64.wrap ((a:Nat):Int)=(a:Int):=by
 have:IntKind.u64.wrap ((a:Nat):Int)=(a:Int) % 2 ^ 64:=by simp [IntKind.wrap,IntKind.bits,IntKind.signed]
 rw [this];omega
theorem bsI7 (a b c d e f h:Int):BuildSOk Tryz.prog 40 7 [(0,.int .i64 a),(1,.int .i64 b),(2,.int .i64 c),(3,.int .i64 d),(4,.int .i64 e),(5,.int .i64 f),(6,.int .i64 h)] 3 #[.int .i64 a,.int .i64 b,.int .i64 c,.int .i64 d,.int .i64 e,.int .i64 f,.int .i64 h]:=fun w=>by kernel_rfl
def plN (p:Pl):List Nat:=[p.n,p.ino,p.im,p.bm,p.tb,p.da,p.dc]
def magicS :Bytes:=[66,79,76,76,65,82,68,83]
def encN (nums:List Nat):Nat->Bytes
 | 0=>magicS++List.replicate 504 0
 | i+1=>put (encN nums i) (8+4 * i) 4 false (nums.getD i 0)
theorem encN_length (nums:List Nat):∀ i,(encN nums i).length=512
 | 0=>by rw [encN,List.length_append,List.length_replicate];rfl
 | i+1=>by rw [encN,put_length];exact encN_length nums i
theorem encN_seg (nums:List Nat) {k:Nat} (hk:k < 100) (hv:nums.getD k 0 < 2 ^ 32):∀ i,k < i->i<=100->beNat (seg (encN nums i) (8+4 * k) 4 false)=nums.getD k 0
 | i+1,h1,h2=>by
  rw [encN]
  have hlen:=encN_length nums i
  by_cases hki:k=i
  ·subst hki
   exact seg_put (by omega) (by rw [show (256:Nat) ^ 4=2 ^ 32 from by decide];exact hv)
  ·rw [seg_put_other (by omega)]
   exact encN_seg nums hk hv i (by omega) (by omega)
def supB (p:Pl):Bytes:=put (encN (plN p) 7) 36 4 false (crcI ((encN (plN p) 7).take 36)).toNat
theorem supB_length (p:Pl):(supB p).length=512:=by unfold supB;rw [put_length];exact encN_length _ _
theorem plN_small {p:Pl} (h:PlIs p):∀ v∈plN p,v < 2 ^ 32:=by
 have h1:=h.im;have h2:=h.bm;have h3:=h.m1;have h4:=h.da;have h5:=h.dc;have h8:=h.n2;have h10:=h.i2
 intro v hv
 unfold plN at hv
 simp only [List.mem_cons,List.not_mem_nil,or_false] at hv
 rcases hv with rfl | rfl | rfl | rfl | rfl | rfl | rfl<;>omega
theorem supB_n {p:Pl} (h:PlIs p):beNat (seg (supB p) 8 4 false)=p.n:=by
 unfold supB
 rw [seg_put_other (by omega)]
 exact encN_seg (plN p) (k:=0) (by omega) (plN_small h _ (List.getElem_mem (l:=plN p) (n:=0) (by show 0 < 7;decide))) 7 (by omega) (by omega)
theorem supB_ino {p:Pl} (h:PlIs p):beNat (seg (supB p) 12 4 false)=p.ino:=by
 unfold supB
 rw [seg_put_other (by omega)]
 exact encN_seg (plN p) (k:=1) (by omega) (plN_small h _ (List.getElem_mem (l:=plN p) (n:=1) (by show 1 < 7;decide))) 7 (by omega) (by omega)
theorem layEnc {p:Pl} (h:PlIs p):Spec Tryz.prog 47 #[.agg p.cells] [] fun F v M=>∃ g q,v=.slice (some ⟨g,0,none⟩) 512 q/\(512<=q/\q<=maxLen)/\M=buf g 5 q (bvs (supB p)) :: F:=by
 refine Spec.intro Tryz.func47 rfl rfl fun B F=>?_
 simp only [Tryz.ntmps47,List.cons_append,List.nil_append,env0,Nat.reduceAdd]
 refine .sr ?_
 refine .box fun b1=>?_
 refine .to (A:=pt b1 (.cells p.cells 89 (0,0))) (A':=pt b1 (.cells p.cells 89 (0,0))) (fun h hh=>hh) ?_
 refine .assign (.x ?_)
 refine .mkSN 512 z5 so59 (by decide) (by decide) fun b6=>?_
 refine .assign (.x (.move ?_))
 refine .copyS magicS so59 ?_ (hdl:=by rw [List.length_replicate];decide)
 refine .to (r:=.here) (A':=buf b6 5 512 (bvs (encN (plN p) 0))) (fun h hh=>by
  have e1:(List.replicate 512 (Value.int .u8 0)).take 0++(bvs magicS).take (min magicS.length 512)++(List.replicate 512 (Value.int .u8 0)).drop (0+min magicS.length 512)=bvs (encN (plN p) 0):=by
   rw [encN,bvs_append,bvs_replicate,List.take_zero,List.nil_append,List.drop_replicate]
   rfl
  rw [<- e1];exact hh) ?_
 refine .z (.seq (.sr ?_))
 refine .fa ?_ fo89_0
 refine .ld ?_ sc3
 refine .fa ?_ fo89_1
 refine .ld ?_ sc3
 refine .fa ?_ fo89_2
 refine .ld ?_ sc3
 refine .fa ?_ fo89_3
 refine .ld ?_ sc3
 refine .fa ?_ fo89_4
 refine .ld ?_ sc3
 refine .fa ?_ fo89_5
 refine .ld ?_ sc3
 refine .fa ?_ fo89_6
 refine .ld ?_ sc3
 refine .buildS (fun b23=>?_) (bsI7 _ _ _ _ _ _ _)
 refine .lenS ?_ sl40
 refine .move (.z (.block ?_))
 refine .to (A:=pt b23 (.cells #[.int .i64 (p.n:Int),.int .i64 (p.ino:Int),.int .i64 (p.im:Int),.int .i64 (p.bm:Int),.int .i64 (p.tb:Int),.int .i64 (p.da:Int),.int .i64 (p.dc:Int)] 3 (0,0))) (A':=pt b23 (.cells (natsV (plN p)).toArray 3 (0,0))) (fun h hh=>hh) ?_
 refine .loopA (σ:=Nat×Nat×Nat) (fun y=>[(3,.slice (some ⟨y.2.1,0,none⟩) 512 y.2.2),(23,.slice (some ⟨b23,0,none⟩) 7 7),(24,.int .i64 7),(25,.int .i64 ((y.1:Nat):Int))]) (fun y=>buf y.2.1 5 y.2.2 (bvs (encN (plN p) y.1)) :: pt b23 (.cells (natsV (plN p)).toArray 3 (0,0)) :: F) (fun y=>y.1<=7/\512<=y.2.2/\y.2.2<=maxLen) (fun y=>7 - y.1) (0,b6,512) ⟨Nat.zero_le _,Nat.le_refl _,by show 512<=maxLen;decide⟩ ?_
 rintro y hy
 obtain ⟨k,gb,q⟩:=y
 obtain ⟨hk,hq1,hq2⟩:=hy
 simp only at hk hq1 hq2 ⊢
 refine .sr ?_
 refine .lss ?_
 refine .z (.seq ?_)
 refine .cond rfl (fun hb=>?_) (fun hb=>?_)
 ·have hlt:k < 7:=by have h:(k:Int) < 7:=of_decide_eq_true hb;omega
  have hgk:(natsV (plN p))[((k:Nat):Int).toNat]?=some (.int .i64 (((plN p).getD k 0:Nat):Int)):=by
   have hl7:k < (plN p).length:=hlt
   rw [Int.toNat_natCast,List.getD_eq_getElem?_getD,List.getElem?_eq_getElem hl7]
   unfold natsV ints
   simp [hl7]
  have hv:(plN p).getD k 0 < 2 ^ 32:=by
   have hl7:k < (plN p).length:=hlt
   rw [List.getD_eq_getElem?_getD,List.getElem?_eq_getElem hl7]
   exact plN_small h _ (List.getElem_mem hl7)
  have hlen:=encN_length (plN p) k
  refine .skip (.next (.seq (.block (.sr (.move ?_)))))
  refine .idx1 ?_ so40
  refine .ldR (i:=((k:Nat):Int).toNat) (R:=pt b23 (.cells (natsV (plN p)).toArray 3 (0,0))) ?_ sc3 Reads.pt hgk
  refine .assign (.assign (.y (.move (.move ?_))))
  refine .mul ?_
  refine .add ?_
  refine .move ?_
  refine .cvt ?_ un3 un148
  refine .cast (d:=36) (u:=.int .u64 (((plN p).getD k 0:Nat):Int)) rfl (congrArg (Value.int .u64) (u64_wrap0 (by omega))) ?_
  refine .call (hc:=Tryz.call82) (sp:=bitsPut (xs:=encN (plN p) k) (v:=(plN p).getD k 0) Reads.buf hlen (by decide) (by omega) (by omega) (by omega) (by omega)) (h:=?_)
  rintro _ _ ⟨g',q',⟨rfl,h1,h2⟩,rfl⟩
  refine .move ?_
  refine .extract ?_
  refine .extract ?_
  refine .assign (.nil (.blockNormal (.next (.region ?_))))
  refine .add ?_
  refine .move (.nil ?_)
  refine .to (r:=.here) (A':=buf g' 5 q' (bvs (encN (plN p) (k+1)))) (fun h hh=>by
   rw [encN,show 8+4 * k=(8+4 * ((k:Nat):Int)).toNat from by omega];exact hh) ?_
  refine .cast (d:=25) (u:=.int .i64 ((k+1:Nat):Int)) rfl (congrArg (Value.int .i64) (by omega)) ?_
  exact .back (k+1,g',q') ⟨by show k+1<=7;omega,h1,h2⟩ (by show 7 - (k+1) < 7 - k;omega)
 ·have hge:k=7:=by have h:¬ (k:Int) < 7:=of_decide_eq_false hb;omega
  subst hge
  have hlen:=encN_length (plN p) 7
  have hcr:=crcI_range ((encN (plN p) 7).take 36)
  refine .exit (.thenExit (.thenExit (.blockExit (?_))))
  refine .next (.sr (.move (.move ?_)))
  refine .slcH ?_ so59
  refine .call (hc:=Tryz.call83) (sp:=crcSum (R:=buf gb 5 q (bvs (encN (plN p) 7))) (xs:=(encN (plN p) 7).take 36) (by rw [bvs_take];exact Reads.buf.take 36) (by rw [List.length_take,hlen];rfl) (by decide)) (h:=?_)
  rintro _ _ ⟨rfl,rfl⟩
  refine .cvt ?_ un149 un148
  refine .cast (d:=46) (u:=.int .u64 (((crcI ((encN (plN p) 7).take 36)).toNat:Nat):Int)) rfl (congrArg (Value.int .u64) (by rw [<- u64_wrap0 (a:=(crcI ((encN (plN p) 7).take 36)).toNat) (by omega)];first | (congr 1;omega) | congr 1)) ?_
  refine .call (hc:=Tryz.call82) (sp:=bitsPut (xs:=encN (plN p) 7) (v:=(crcI ((encN (plN p) 7).take 36)).toNat) Reads.buf hlen (by decide) (by omega) (by omega) (by omega) (by omega)) (h:=?_)
  rintro _ _ ⟨g',q',⟨rfl,h1,h2⟩,rfl⟩
  refine .move ?_
  refine .extract ?_
  refine .extract ?_
  refine .assign (.x (.move (.assign (.z ?_))))
  refine .ret (?_)
  exact .ret1 (h1:=.tmp (t:=2) rfl) ⟨_,⟨g',q',rfl,⟨h1,h2⟩,rfl⟩,Am.auto⟩
theorem bytesEq {R R2:HP} {A A2:Option Addr} {m c m2 c2:Nat} {xs ys:Bytes} (hR:Reads R A (bvs xs)) (hm:xs.length=m) (hR2:Reads R2 A2 (bvs ys)) (hm2:ys.length=m2):Spec Tryz.prog 74 #[.slice A m c,.slice A2 m2 c2] [R,R2] fun F v M=>v=.bool (decide (xs=ys))/\M=R :: R2 :: F:=by
 refine Spec.intro Tryz.func74 rfl rfl fun B F=>?_
 simp only [Tryz.ntmps74,List.cons_append,List.nil_append,env0,Nat.reduceAdd]
 refine .sr (.assign (.x (.move ?_)))
 refine .cvtBS (R:=R) (xs:=xs) ?_ by59 st9 hR hm
 refine .move ?_
 refine .cvtBS (R:=R2) (xs:=ys) ?_ by59 st9 hR2 hm2
 refine .eqS xs ys ?_
 refine .assign (.z ?_)
 refine .ret (?_)
 exact .ret1 (h1:=.tmp (t:=4) rfl) ⟨_,⟨rfl,rfl⟩,Am.auto⟩
theorem layDec {R:HP} {A:Addr} {cc:Nat} {p:Pl} (h:PlIs p) (hR:Reads R (some A) (bvs (supB p))):Spec Tryz.prog 53 #[.slice (some A) 512 cc] [R] fun F v M=>v=.tuple #[.agg p.cells,.int .i64 0]/\M=R :: F:=by
 refine Spec.intro Tryz.func53 rfl rfl fun B F=>?_
 simp only [Tryz.ntmps53,List.cons_append,List.nil_append,env0,Nat.reduceAdd]
 have hl:=supB_length p
 have h8:=h.n2
 have h10:=h.i2
 refine .sr ?_
 refine .alloc z89 fun b2=>?_
 refine .assign (.x (.move ?_))
 refine .call (hc:=Tryz.call105) (sp:=bitsGet (p:=8) (size:=4) (big:=false) hR hl (by decide) (by decide) (by decide) (by decide)) (h:=?_)
 rintro _ _ ⟨rfl,rfl⟩
 rw [show beNat (seg (supB p) (8:Int).toNat (4:Int).toNat false)=p.n from supB_n h]
 refine .move ?_
 refine .extract ?_
 refine .extract ?_
 refine .assign (.assign (.x (.move ?_)))
 refine .call (hc:=Tryz.call105) (sp:=bitsGet (p:=12) (size:=4) (big:=false) hR hl (by decide) (by decide) (by decide) (by decide)) (h:=?_)
 rintro _ _ ⟨rfl,rfl⟩
 rw [show beNat (seg (supB p) (12:Int).toNat (4:Int).toNat false)=p.ino from supB_ino h]
 refine .move ?_
 refine .extract ?_
 refine .extract ?_
 refine .assign (.assign (.x (.move ?_)))
 refine .cvt ?_ un148 un3
 refine .cast (d:=22) (u:=.int .i64 (p.n:Int)) rfl (congrArg (Value.int .i64) (IntWalk.i64_in _ (by omega))) ?_
 refine .move ?_
 refine .cvt ?_ un148 un3
 refine .cast (d:=24) (u:=.int .i64 (p.ino:Int)) rfl (congrArg (Value.int .i64) (IntWalk.i64_in _ (by omega))) ?_
 refine .call (hc:=Tryz.call40) (sp:=layMake h) (h:=?_)
 rintro _ _ ⟨rfl,rfl⟩
 refine .move ?_
 refine .extract ?_
 refine .extract ?_
 refine .alloc z89 fun b8=>?_
 refine .stV ?_ agg89
 refine .to (A:=pt b8 (.cells p.cells 89 (0,0))) (A':=pt b8 (.cells p.cells 89 (0,0))) (fun h hh=>hh) ?_
 refine .assign (.z (.seq (.sr (.move ?_))))
 refine .nei ?_
 refine .move ?_
 refine .cast (d:=30) (u:=.bool false) rfl (congrArg Value.bool (by first|simp;done|simp;omega|omega)) ?_
 refine .gT ?_
 refine .ldA ?_ agg89
 refine .gT ?_
 refine .call (hc:=Tryz.call47) (sp:=layEnc h) (h:=?_)
 rintro _ _ ⟨gb,q,rfl,⟨hq1,hq2⟩,rfl⟩
 refine .gT ?_
 refine .move ?_
 refine .gT ?_
 refine .call (hc:=Tryz.call74) (sp:=bytesEq (R:=buf gb 5 q (bvs (supB p))) (R2:=R) (xs:=supB p) (ys:=supB p) Reads.buf hl hR hl) (h:=?_)
 rintro _ _ ⟨rfl,rfl⟩
 rw [decide_eq_true rfl]
 refine .gT ?_
 refine .not ?_
 refine .pickF ?_
 refine .z ?_
 refine .condF rfl rfl ?_
 refine .skip (.next (.sr ?_))
 refine .ldA ?_ agg89
 refine .stV ?_ agg89
 refine .assign (.z ?_)
 refine .ret (?_)
 exact .ret2 (h2:=.tmp (t:=3) rfl) ⟨_,⟨rfl,rfl⟩,Am.auto⟩
structure DevOk (n:Nat) (V:Nat->Bytes) (J:JS):Prop where
 ok:HeadsOk n J
 last:J.last < 2 ^ 64
 gen:J.gen < 2 ^ 64
 n1:246<=n
 n2:n<=65536
 fit:Fit n J.ch
 home:∀ k,245<=k->k < n->J.view k=V k
theorem DevOk.settled {n:Nat} {V:Nat->Bytes} {J:JS} (h:DevOk n V J):DevOk n V J.settled:=by
 refine ⟨h.ok.settled h.fit,h.last,h.gen,h.n1,h.n2,Fit.nil n,fun k h1 h2=>?_⟩
 rw [<- h.home k h1 h2]
 show (kget [] k).getD (lay J.cur J.ch k)=_
 rw [lay_view _ _ h.fit.apart]
 rfl
theorem tCommitD {c n d:Nat} {V0 V:Nat->Bytes} {D:List Nat} (ht:tagN (V0 1)=some d) (hn1:246<=n):Spec Tryz.prog 50 #[.pointer (some ⟨c,0,none⟩)] [TR c n V0 V D true] fun F v M=>∃ J,v=okV/\DevOk n V J/\M=DevR d n J.cur 0 :: F:=by
 refine Spec.opens (TR.opens c n V0 V D true) fun y hy=>(cCommitF (c:=c) (j:=y.1) (d:=y.2.1) (n:=n) (S:=y.2.2) hy.hop).post ?_
 rintro F v M ⟨L,hL,hW,hJ,rfl,rfl⟩
 obtain ⟨hdev,hok,hlast,hgen,hn2⟩:=hy.tg _ ht
 have hLf:=hW.perm hL
 have hv:∀ k,245<=k->k < n->(y.2.2.J.commits L).view k=V k:=fun k h1 h2=>by
  rw [JS.view_commits hJ (hW.perm hL) k h1,kget_perm hL hW.apart]
  exact hy.h1 k h1 h2
 have hD:DevOk n V (y.2.2.J.commits L):=by
  unfold JS.commits at hv ⊢
  by_cases h0:L=[]
  ·rw [if_pos h0] at hv ⊢
   exact ⟨hok,by omega,hgen,hn1,hn2,hJ,hv⟩
  ·rw [if_neg h0] at hv ⊢
   have hnx:(y.2.2.J.commit L).last < 2 ^ 64:=Nat.mod_lt _ (by decide)
   exact ⟨hok.commit hgen hn2 hJ hLf hlast,hnx,hgen,hn1,hn2,hLf,hv⟩
 refine ⟨_,⟨_,rfl,hD,rfl⟩,fun B w hs=>?_⟩
 subst hdev
 obtain ⟨x,hx,h1⟩:=Sat.opens hs (CR.opens c y.1 y.2.1 n _)
 have h2:=Sat.front (.there (.there .here)) h1
 obtain ⟨z,hz,h3⟩:=Sat.opens h2 (JR.opens y.1 y.2.1 n _)
 exact Sat.front (.there (.there (.there (.there .here)))) h3 |> fun h=>Am.wk Am.auto B w h
theorem bdFS (c a s m:Nat):BuildOk Tryz.prog 81 [(0,.pointer (some ⟨c,0,none⟩)),(1,.pointer (some ⟨a,0,none⟩)),(2,.pointer (some ⟨s,0,none⟩)),(6,.map (some m))] #[.pointer (some ⟨c,0,none⟩),.pointer (some ⟨a,0,none⟩),.pointer (some ⟨s,0,none⟩),.bool false,.bool false,.bool false,.map (some m)]:=fun w=>by kernel_rfl
theorem fsStand {j d:Nat} {p:Pl} {J:JS} {T:FT} (hn1:246<=p.n) (hn2:p.n<=65536):Spec Tryz.prog 43 #[.pointer (some ⟨j,0,none⟩),.agg p.cells] [JR j d p.n J] fun F v M=>∃ f c a s mp,v=.pointer (some ⟨f,0,none⟩)/\M=[pt f (fO c a s false false false mp),LD mp T,pt s (stO c a p),pt a (alO c p),CR c j d p.n ⟨J,[],false,false⟩]++F:=by
 refine Spec.intro Tryz.func43 rfl rfl fun B F=>?_
 simp only [Tryz.ntmps43,List.cons_append,List.nil_append,env0,Nat.reduceAdd]
 refine .sr ?_
 refine .box fun b3=>?_
 refine .to (A:=pt b3 (.cells p.cells 89 (0,0))) (A':=pt b3 (.cells p.cells 89 (0,0))) (fun h hh=>hh) ?_
 refine .assign (.x (.move ?_))
 refine .call (hc:=Tryz.call77) (sp:=cNew (n:=p.n) hn1 hn2) (h:=?_)
 rintro _ _ ⟨c,rfl,rfl⟩
 refine .assign (.x (.move ?_))
 refine .ldA ?_ agg89
 refine .call (hc:=Tryz.call78) (sp:=alNew (p:=p)) (h:=?_)
 rintro _ _ ⟨a,rfl,rfl⟩
 refine .assign (.x (.move (.move (.move (.move ?_)))))
 refine .ldA ?_ agg89
 refine .call (hc:=Tryz.call79) (sp:=inNew (p:=p)) (h:=?_)
 rintro _ _ ⟨s,rfl,rfl⟩
 refine .mkMap fun m18=>?_
 refine .build ?_ (bdFS _ _ _ _)
 refine .box fun b20=>?_
 refine .assign (.z ?_)
 refine .ret (?_)
 refine .shutR (LD.opens m18 T) (#[],0,[]) (LDP.empty T 0) ?_
 exact .ret1 (h1:=.tmp (t:=4) rfl) ⟨_,⟨b20,c,a,s,m18,rfl,rfl⟩,Am.auto⟩
def mkW (p:Pl):Nat->Bytes:=svV p (fmtA p (wr zeroD 245 (supB p))) 0 ⟨2,0,List.replicate 11 0⟩
theorem fmtA_at (p:Pl) (V:Nat->Bytes) (k:Nat):fmtA p V k=if p.bm<=k/\k < p.bm+(p.dc+4095) / 4096 then fmtZ p p.bm p.dc else if p.im<=k/\k < p.im+(p.ino+4095) / 4096 then fmtZ p p.im p.ino else V k:=by
 unfold fmtA;rw [fmtV_at,fmtV_at]
theorem svV_other {p:Pl} {V:Nat->Bytes} {x:Nd} {k:Nat} (h:k≠p.tb):svV p V 0 x k=V k:=wr_other _ _ (by omega)
theorem mkW_sup {p:Pl} (h:PlIs p):mkW p 245=supB p:=by
 have h1:=h.im;have h2:=h.bm;have h3:=h.m1
 unfold mkW
 rw [svV_other (by omega),fmtA_at,if_neg (by omega),if_neg (by omega)]
 unfold wr
 rw [if_pos rfl]
theorem mkW_home {p:Pl} (h:PlIs p) {k:Nat} (hk:246<=k):mkW p k=freshW p k:=by
 have h1:=h.im;have h2:=h.bm;have h3:=h.m1
 have key:∀ v,246<=v->fmtA p (wr zeroD 245 (supB p)) v=freshV p v:=fun v hv=>by
  unfold freshV
  rw [fmtA_at,fmtA_at]
  split
  ·rfl
  ·split
   ·rfl
   ·unfold wr;rw [if_neg (by omega)]
 unfold mkW freshW svV
 generalize fmtA p (wr zeroD 245 (supB p))=X at key ⊢
 unfold wr
 by_cases ht:k=p.tb+0 / 8
 ·rw [if_pos ht,if_pos ht,key _ (by omega)]
 ·rw [if_neg ht,if_neg ht];exact key k hk
theorem mkW_len {p:Pl} (h:PlIs p):Len5 (mkW p):=by
 have h0:Len5 (wr zeroD 245 (supB p)):=fun k=>by unfold wr;split;exact supB_length p;exact zeros_length
 have h1:Len5 (fmtA p (wr zeroD 245 (supB p))):=fun k=>by
  rw [fmtA_at]
  split
  ·exact fmtZ_length _ _ _
  ·split
   ·exact fmtZ_length _ _ _
   ·exact h0 k
 exact svV_len h1 _ _
theorem mkW_rep {p:Pl} (h:PlIs p):Rep p (cm0 (mkW p)) rootM:=by
 have h1:=(fresh_rep h).mono h.ok (V':=mkW p) (mkW_len h) (fun v hv=>mkW_home h (by have:=h.im;omega))
 exact h1.cm h.ok
def tagV (d:Nat):Nat->Bytes:=fun k=>if k=1 then List.replicate (513+d) 0 else zeros
theorem tagV_tag (d:Nat):tagN (tagV d 1)=some d:=by
 have hl:(tagV d 1).length=513+d:=by
  show (List.replicate (513+d) (0:UInt8)).length=_
  rw [List.length_replicate]
 unfold tagN
 rw [hl,if_pos (Nat.le_add_right _ _),Nat.add_sub_cancel_left]
theorem tagV_home {d k:Nat} (h:245<=k):tagV d k=zeros:=if_neg (by omega)
theorem fo66_0 :fieldOk Tryz.prog 66 0 0=true:=by kernel_rfl
theorem fo66_1 :fieldOk Tryz.prog 66 1 1=true:=by kernel_rfl
theorem fo66_2 :fieldOk Tryz.prog 66 2 2=true:=by kernel_rfl
theorem fo66_3 :fieldOk Tryz.prog 66 3 3=true:=by kernel_rfl
theorem fo66_4 :fieldOk Tryz.prog 66 4 4=true:=by kernel_rfl
theorem fo66_5 :fieldOk Tryz.prog 66 5 5=true:=by kernel_rfl
theorem sl238 :Tryz.prog.underlying 238=some (.slice 59):=by kernel_rfl
theorem so238 :sliceOk Tryz.prog 238 59 1 24=true:=by kernel_rfl
theorem agg66 :aggOk Tryz.prog 66 6=true:=by kernel_rfl
def vint (n:Nat):Bytes:=if 127 < n then UInt8.ofNat (n % 128+128) :: vint (n / 128) else [UInt8.ofNat n]
termination_by n
decreasing_by omega
theorem vint_big {n:Nat} (h:127 < n):vint n=UInt8.ofNat (n % 128+128) :: vint (n / 128):=by rw [vint,if_pos h]
theorem vint_low {n:Nat} (h:¬ 127 < n):vint n=[UInt8.ofNat n]:=by rw [vint,if_neg h]
theorem vint_len :∀ (k n:Nat),n < 128 ^ (k+1)->(vint n).length<=k+1:=by
 intro k
 induction k with
 | zero=>intro n h;rw [vint_low (by have:n < 128:=(by simpa using h);omega)];simp
 | succ k ih =>
  intro n h
  by_cases hb:127 < n
  ·rw [vint_big hb,List.length_cons]
   have:=ih (n / 128) (Nat.div_lt_of_lt_mul (by rw [Nat.mul_comm];simpa [Nat.pow_succ] using h))
   omega
  ·rw [vint_low hb];simp
theorem vint_len10 {n:Nat} (h:n < 18446744073709551616):(vint n).length<=10:=vint_len 9 n (by omega)
theorem vint_pos (n:Nat):1<=(vint n).length:=by rw [vint];split<;>simp
theorem u8or_fin :∀ m:Fin 256,bor .u8 ((m.val:Nat):Int) 128=(((UInt8.ofNat (m.val % 128+128)).toNat:Nat):Int):=by decide +kernel
theorem u8_wrapN (n:Nat):IntKind.u8.wrap (n:Int)=((n % 256:Nat):Int):=by simp [IntKind.wrap,IntKind.bits,IntKind.signed]
theorem u8or (n:Nat):bor .u8 (IntKind.u8.wrap (n:Int)) 128=(((UInt8.ofNat (n % 128+128)).toNat:Nat):Int):=by
 rw [u8_wrapN]
 have:=u8or_fin ⟨n % 256,Nat.mod_lt _ (by decide)⟩
 rw [this]
 simp only []
 rw [show n % 256 % 128=n % 128 by omega]
theorem u8low {n:Nat} (h:¬ 127 < n):IntKind.u8.wrap (n:Int)=(((UInt8.ofNat n).toNat:Nat):Int):=by
 rw [u8_wrapN]
 simp
theorem shr7 (n:Nat):((n:Int)).fdiv (2 ^ (min (7:Int).toNat IntKind.u64.bits))=((n / 128:Nat):Int):=by
 rw [show (2:Int) ^ (min (7:Int).toNat IntKind.u64.bits)=128 from by decide,Int.fdiv_eq_ediv_of_nonneg _ (by decide)]
 omega
theorem bsb1 (v0:Int):BuildSOk Tryz.prog 59 1 [(0,.int .u8 v0)] 5 #[.int .u8 v0]:=fun w=>by kernel_rfl
theorem bitsVarint {n:Nat} (hn:n < 18446744073709551616):Spec Tryz.prog 161 #[.int .u64 (n:Int)] []
  fun F v M=>v≠.slice none 0 0/\M=rowR 5 1 v (vint n).length (bvs (vint n)) :: F:=by
 refine Spec.intro Tryz.func161 rfl rfl fun B F=>?_
 simp only [Tryz.ntmps161,List.cons_append,List.nil_append,env0,Nat.reduceAdd]
 have hlen:=vint_len10 hn
 refine .emp (A:=rowR 5 1 (.slice none 0 0) 0 (bvs [])) (rowR.nil _) ?_
 refine .sr (.assign (.z (.seq (.block ?_))))
 refine .loopA (σ:=Nat×Bytes×Value) (fun s=>[(0,.int .u64 (s.1:Int)),(2,s.2.2)]) (fun s=>rowR 5 1 s.2.2 s.2.1.length (bvs s.2.1) :: F) (fun s=>s.1 < 18446744073709551616/\s.2.1++vint s.1=vint n) (fun s=>s.1) (n,[],.slice none 0 0) ⟨hn,rfl⟩ ?_
 rintro s hs
 obtain ⟨m,bs,u⟩:=s
 obtain ⟨hm,hb⟩:=hs
 simp only at hm hb
 have hle:bs.length+(vint m).length<=10:=by rw [<- List.length_append,hb];exact hlen
 have hpos:=vint_pos m
 refine .seq (.sr (.move ?_))
 refine .gtr ?_
 refine .z ?_
 refine .cond rfl (fun hd=>?_) (fun hd=>?_)
 ·have hbig:127 < m:=by have h:(127:Int) < (m:Int):=of_decide_eq_true hd;omega
  refine .skip (.next (.block (.sr (.move (.move ?_)))))
  refine .cvt ?_ un148 un5
  refine .or ?_
  refine .cast (d:=8) rfl (congrArg (Value.int .u8) (u8or m)) ?_
  refine .buildS (fun b9=>?_) (bsb1 _)
  refine .append (m:=1) (news:=bvs [UInt8.ofNat (m % 128+128)]) so59 (by decide) (by repeat (first | exact .here | apply Rem.there | apply Repl.there | apply Mem.there)) (Reads.pt (cs:=(bvs [UInt8.ofNat (m % 128+128)]).toArray)) (by repeat (first | exact .here | apply Rem.there | apply Repl.there | apply Mem.there)) rfl (bvs_single _) (by show bs.length+1<=maxLen;unfold maxLen;omega) (by show (bs.length+1) * 1<=140737488355328;omega) ⟨_,z5,rfl⟩ (fun v' hv'=>?_)
  refine .assign (.y (.move ?_))
  refine .shr ?_
  refine .cast (d:=12) rfl (congrArg (Value.int .u64) (shr7 m)) ?_
  refine .assign (.nil (.blockNormal ?_))
  exact .back (m / 128,bs++[UInt8.ofNat (m % 128+128)],v') ⟨by show m / 128 < _;omega,by show (bs++[_])++vint (m / 128)=_;rw [List.append_assoc,<-hb,vint_big hbig];rfl⟩ (show m / 128 < m by omega) (hI:=by rw [show bs.length+1=(bs++[UInt8.ofNat (m % 128+128)]).length by simp,<-bvs_append];exact Am.auto)
 ·have hlow:¬ 127 < m:=by have h:¬ (127:Int) < (m:Int):=of_decide_eq_false hd;omega
  refine .exit (.thenExit (.thenExit (.blockExit (?_))))
  refine .next (.sr (.move (.move ?_)))
  refine .cvt ?_ un148 un5
  refine .cast (d:=15) rfl (congrArg (Value.int .u8) (u8low hlow)) ?_
  refine .buildS (fun b16=>?_) (bsb1 _)
  refine .append (m:=1) (news:=bvs [UInt8.ofNat m]) so59 (by decide) (by repeat (first | exact .here | apply Rem.there | apply Repl.there | apply Mem.there)) (Reads.pt (cs:=(bvs [UInt8.ofNat m]).toArray)) (by repeat (first | exact .here | apply Rem.there | apply Repl.there | apply Mem.there)) rfl (bvs_single _) (by show bs.length+1<=maxLen;unfold maxLen;omega) (by show (bs.length+1) * 1<=140737488355328;omega) ⟨_,z5,rfl⟩ (fun v' hv'=>?_)
  refine .assign (.z ?_)
  refine .ret (?_)
  have hfin:bvs bs++bvs [UInt8.ofNat m]=bvs (vint n):=by rw [<- bvs_append,<-hb,vint_low hlow]
  have hk:bs.length+1=(vint n).length:=by rw [<- hb,vint_low hlow,List.length_append];rfl
  refine .to (A:=rowR 5 1 v' (bs.length+1) (bvs bs++bvs [UInt8.ofNat m])) (A':=rowR 5 1 v' (vint n).length (bvs (vint n))) (fun h hh=>by rw [<- hk,<-hfin];exact hh) ?_
  exact .ret1 (h1:=.tmp (t:=2) rfl) ⟨_,⟨fun h=>(by have:=(hv'.1 h).2;omega),rfl⟩,Am.auto⟩
def zigI (v:Int):Int:=bxor .u64 (IntKind.u64.wrap (IntKind.u64.wrap v * 2 ^ (min (1:Int).toNat IntKind.u64.bits))) (IntKind.u64.wrap (v.fdiv (2 ^ (min (63:Int).toNat IntKind.i64.bits))))
theorem u64_rng (x:Int):0<=IntKind.u64.wrap x/\IntKind.u64.wrap x < 18446744073709551616:=by
 simp only [IntKind.wrap,IntKind.bits,IntKind.signed]
 constructor
 ·exact Int.emod_nonneg _ (by decide)
 ·exact Int.emod_lt_of_pos _ (by decide)
theorem zigI_rng (v:Int):0<=zigI v/\zigI v < 18446744073709551616:=u64_rng _
def zigN (v:Int):Nat:=(zigI v).toNat
theorem zigN_lt (v:Int):zigN v < 18446744073709551616:=by have:=zigI_rng v;unfold zigN;omega
theorem zigN_eq (v:Int):zigI v=((zigN v:Nat):Int):=by have:=zigI_rng v;unfold zigN;omega
structure Rc where
 hk:Bool
 key:Bytes
 hv:Bool
 val:Bytes
 time:Int
 off:Int
def Rc.v (r:Rc):List Value:=[.bool r.hk,sv r.key,.bool r.hv,sv r.val,.int .i64 r.time,.int .i64 r.off]
theorem Rc.v_len (r:Rc):r.v.length=6:=rfl
def Rc.odd (r:Rc):Bool:=(!r.hk && !decide (r.key=[])) || (!r.hv && !decide (r.val=[])) || decide (r.time < 0) || decide (1125899906842624 < r.time) || decide (r.off < 0) || decide (100<=r.off)
def Rc.big (r:Rc):Bool:=decide ((2000:Int) < ((r.key.length:Nat):Int)) || decide ((2000:Int) < ((r.val.length:Nat):Int))
def ckE (r:Rc):Int:=if r.odd then 1 else if r.big then 2 else 0
theorem ck1 {r:Rc} (h:r.odd=true):(1:Int)=ckE r:=by unfold ckE;rw [if_pos h]
theorem ck2 {r:Rc} (h:r.odd=false) (h2:r.big=true):(2:Int)=ckE r:=by unfold ckE;rw [if_neg (by simp [h]),if_pos h2]
theorem ck0 {r:Rc} (h:r.odd=false) (h2:r.big=false):(0:Int)=ckE r:=by unfold ckE;rw [if_neg (by simp [h]),if_neg (by simp [h2])]
theorem bitsZig {v:Int}:Spec Tryz.prog 162 #[.int .i64 v] [] fun F u M=>u=.int .u64 ((zigN v:Nat):Int)/\M=F:=by
 refine Spec.intro Tryz.func162 rfl rfl fun B F=>?_
 simp only [Tryz.ntmps162,List.cons_append,List.nil_append,env0,Nat.reduceAdd]
 refine .sr (.assign (.x (.move ?_)))
 refine .cvt ?_ un3 un148
 refine .shl ?_
 refine .move ?_
 refine .shr ?_
 refine .cvt ?_ un3 un148
 refine .xor ?_
 refine .assign (.z ?_)
 refine .ret (?_)
 exact .ret1 (h1:=.tmp (t:=2) rfl) ⟨_,⟨congrArg (Value.int .u64) (zigN_eq v),rfl⟩,Am.auto⟩
theorem recText {s:Bytes} (hs:s.length<=1073741824):Spec Tryz.prog 163 #[sv s] [] fun F v M=>v≠.slice none 0 0/\M=rowR 5 1 v ((vint s.length).length+s.length) (bvs (vint s.length++s)) :: F:=by
 refine Spec.intro Tryz.func163 rfl rfl fun B F=>?_
 simp only [Tryz.ntmps163,List.cons_append,List.nil_append,env0,Nat.reduceAdd]
 have hv10:=vint_len10 (n:=s.length) (by omega)
 refine .sr (.assign (.x (.move ?_)))
 refine .lenT _ ?_ st9
 refine .cvt ?_ un3 un148
 refine .cast (d:=5) (u:=.int .u64 ((s.length:Nat):Int)) rfl (congrArg (Value.int .u64) (u64_wrap0 (by omega))) ?_
 refine .call (hc:=Tryz.call161) (sp:=bitsVarint (n:=s.length) (by omega)) (h:=?_)
 rintro _ _ ⟨hne,rfl⟩
 refine .move ?_
 refine .appendT s so59 st9 (by repeat (first | exact .here | apply Rem.there | apply Repl.there | apply Mem.there)) (by unfold maxLen;omega) (by omega) ⟨_,z5,rfl⟩ (fun v' hv'=>?_)
 refine .assign (.z ?_)
 refine .ret (?_)
 rw [<- bvs_append]
 exact .ret1 (h1:=.tmp (t:=2) rfl) ⟨_,⟨fun h=>hne (hv'.1 h).1,rfl⟩,Am.auto⟩
theorem recCheck {r:Rc}:Spec Tryz.prog 113 #[.agg r.v.toArray] [] fun F v M=>v=.int .i64 (ckE r)/\M=F:=by
 refine Spec.intro Tryz.func113 rfl rfl fun B F=>?_
 simp only [Tryz.ntmps113,List.cons_append,List.nil_append,env0,Nat.reduceAdd]
 obtain ⟨hk,key,hv,val,time,off⟩:=r
 refine .sr ?_
 refine .box fun b1=>?_
 refine .assign (.z (.seq (.block (.seq (.seq ?_)))))
 refine .join (σ:=Bool) (fun b=>[(1,.pointer (some ⟨b1,0,none⟩)),(3,.bool b)]) (fun _=>[pt b1 (.cells (Rc.v ⟨hk,key,hv,val,time,off⟩).toArray 66 (0,0))]++F) (fun b=>b=(!hk && !decide (key=[]))) ?_ ?_
 ·refine .region ?_
  refine .fa ?_ fo66_0
  refine .ld ?_ sc4
  refine .not ?_
  refine .move ?_
  refine .split (t:=7) rfl (fun hg=>?_) (fun hg=>?_)
  ·refine .gT ?_
   refine .fa ?_ fo66_1
   refine .gT ?_
   refine .ld ?_ sc9
   refine .gT ?_
   refine .neS _ _ ?_
   refine .pickT ?_
   refine .assign (.nil ?_)
   exact .joined (!decide (key=[])) (by simp only [hg,Bool.true_and])
  ·refine .gF ?_
   refine .gF ?_
   refine .gF ?_
   refine .pickF ?_
   refine .assign (.nil ?_)
   exact .joined false (by simp only [hg,Bool.false_and])
 ·rintro a ea
  refine .next ?_
  refine .cond rfl (fun ha=>?_) (fun ha=>?_)
  ·refine .skip (.next ?_)
   refine .condT rfl (congrArg Value.bool (ha)) ?_
   refine .sr (.assign (.z ?_))
   refine .ret (.blockRet (.thenRet (?_)))
   exact .ret1 (h1:=.tmp (t:=2) rfl) ⟨_,⟨congrArg (Value.int .i64) (ck1 (by simp only [Rc.odd,<-ea,ha,Bool.or_true,Bool.true_or])),rfl⟩,Am.auto⟩
  ·refine .seq ?_
   refine .join (σ:=Bool) (fun b=>[(1,.pointer (some ⟨b1,0,none⟩)),(3,.bool b)]) (fun _=>[pt b1 (.cells (Rc.v ⟨hk,key,hv,val,time,off⟩).toArray 66 (0,0))]++F) (fun b=>b=(!hv && !decide (val=[]))) ?_ ?_
   ·refine .region ?_
    refine .fa ?_ fo66_2
    refine .ld ?_ sc4
    refine .not ?_
    refine .move ?_
    refine .split (t:=15) rfl (fun hg=>?_) (fun hg=>?_)
    ·refine .gT ?_
     refine .fa ?_ fo66_3
     refine .gT ?_
     refine .ld ?_ sc9
     refine .gT ?_
     refine .neS _ _ ?_
     refine .pickT ?_
     refine .assign (.nil ?_)
     exact .joined (!decide (val=[])) (by simp only [hg,Bool.true_and])
    ·refine .gF ?_
     refine .gF ?_
     refine .gF ?_
     refine .pickF ?_
     refine .assign (.nil ?_)
     exact .joined false (by simp only [hg,Bool.false_and])
   ·rintro b eb
    refine .next ?_
    refine .cond rfl (fun hb=>?_) (fun hb=>?_)
    ·refine .skip (.next ?_)
     refine .condT rfl (congrArg Value.bool (hb)) ?_
     refine .sr (.assign (.z ?_))
     refine .ret (.blockRet (.thenRet (?_)))
     exact .ret1 (h1:=.tmp (t:=2) rfl) ⟨_,⟨congrArg (Value.int .i64) (ck1 (by simp only [Rc.odd,<-eb,hb,Bool.or_true,Bool.true_or])),rfl⟩,Am.auto⟩
    ·refine .sr ?_
     refine .fa ?_ fo66_4
     refine .ld ?_ sc3
     refine .lss ?_
     refine .assign (.z ?_)
     refine .cond rfl (fun h3=>?_) (fun h3=>?_)
     ·refine .skip (.next ?_)
      refine .condT rfl (congrArg Value.bool (h3)) ?_
      refine .sr (.assign (.z ?_))
      refine .ret (.blockRet (.thenRet (?_)))
      exact .ret1 (h1:=.tmp (t:=2) rfl) ⟨_,⟨congrArg (Value.int .i64) (ck1 (by simp only [Rc.odd,h3,Bool.or_true,Bool.true_or])),rfl⟩,Am.auto⟩
     ·refine .sr ?_
      refine .fa ?_ fo66_4
      refine .ld ?_ sc3
      refine .gtr ?_
      refine .assign (.z ?_)
      refine .cond rfl (fun h4=>?_) (fun h4=>?_)
      ·refine .skip (.next ?_)
       refine .condT rfl (congrArg Value.bool (h4)) ?_
       refine .sr (.assign (.z ?_))
       refine .ret (.blockRet (.thenRet (?_)))
       exact .ret1 (h1:=.tmp (t:=2) rfl) ⟨_,⟨congrArg (Value.int .i64) (ck1 (by simp only [Rc.odd,h4,Bool.or_true,Bool.true_or])),rfl⟩,Am.auto⟩
      ·refine .sr ?_
       refine .fa ?_ fo66_5
       refine .ld ?_ sc3
       refine .lss ?_
       refine .assign (.z ?_)
       refine .cond rfl (fun h5=>?_) (fun h5=>?_)
       ·refine .skip (.next ?_)
        refine .condT rfl (congrArg Value.bool (h5)) ?_
        refine .sr (.assign (.z ?_))
        refine .ret (.blockRet (.thenRet (?_)))
        exact .ret1 (h1:=.tmp (t:=2) rfl) ⟨_,⟨congrArg (Value.int .i64) (ck1 (by simp only [Rc.odd,h5,Bool.or_true,Bool.true_or])),rfl⟩,Am.auto⟩
       ·refine .region ?_
        refine .fa ?_ fo66_5
        refine .ld ?_ sc3
        refine .geq ?_
        refine .assign (.z ?_)
        refine .cond rfl (fun h6=>?_) (fun h6=>?_)
        ·refine .sr (.assign (.z ?_))
         refine .ret (.blockRet (.thenRet (?_)))
         exact .ret1 (h1:=.tmp (t:=2) rfl) ⟨_,⟨congrArg (Value.int .i64) (ck1 (by simp only [Rc.odd,h6,Bool.or_true,Bool.true_or])),rfl⟩,Am.auto⟩
        ·have hodd:Rc.odd ⟨hk,key,hv,val,time,off⟩=false:=by simp only [Rc.odd,<-ea,ha,<-eb,hb,h3,h4,h5,h6,Bool.or_false]
         refine .seq (.sr ?_)
         refine .fa ?_ fo66_1
         refine .ld ?_ sc9
         refine .lenT _ ?_ st9
         refine .gtr ?_
         refine .assign (.z ?_)
         refine .cond rfl (fun h7=>?_) (fun h7=>?_)
         ·refine .skip (.next ?_)
          refine .condT rfl (congrArg Value.bool (h7)) ?_
          refine .sr (.assign (.z ?_))
          refine .ret (.blockRet (.thenRet (?_)))
          exact .ret1 (h1:=.tmp (t:=2) rfl) ⟨_,⟨congrArg (Value.int .i64) (ck2 hodd (by simp only [Rc.big,h7,Bool.true_or])),rfl⟩,Am.auto⟩
         ·refine .region ?_
          refine .fa ?_ fo66_3
          refine .ld ?_ sc9
          refine .lenT _ ?_ st9
          refine .gtr ?_
          refine .assign (.z ?_)
          refine .cond rfl (fun h8=>?_) (fun h8=>?_)
          ·refine .sr (.assign (.z ?_))
           refine .ret (.blockRet (.thenRet (?_)))
           exact .ret1 (h1:=.tmp (t:=2) rfl) ⟨_,⟨congrArg (Value.int .i64) (ck2 hodd (by simp only [Rc.big,h7,h8,Bool.or_true])),rfl⟩,Am.auto⟩
          ·refine .skip (.blockNormal (.next (.sr (.assign (.z ?_)))))
           refine .ret (?_)
           exact .ret1 (h1:=.tmp (t:=2) rfl) ⟨_,⟨congrArg (Value.int .i64) (ck0 hodd (by simp only [Rc.big,h7,h8,Bool.or_false])),rfl⟩,Am.auto⟩
theorem flat_take {l:List (Value×Bytes)} {i:Nat} {pv:Value} {px:Bytes} (h:l[i]?=some (pv,px)):(l.take (i+1)).flatMap (·.2)=(l.take i).flatMap (·.2)++px/\((l.take i).flatMap (·.2)).length+px.length<=(l.flatMap (·.2)).length:=by
 have h1:(l.take (i+1)).flatMap (·.2)=(l.take i).flatMap (·.2)++px:=by
  rw [List.take_add_one,h]
  simp
 refine ⟨h1,?_⟩
 have h2:(l.flatMap (·.2)).length=((l.take (i+1)).flatMap (·.2)).length+((l.drop (i+1)).flatMap (·.2)).length:=by
  rw [<- List.length_append,<-List.flatMap_append,List.take_append_drop]
 rw [h1,List.length_append] at h2
 omega
theorem recJoin {R:HP} {A:Addr} {c:Nat} {bl l:List (Value×Bytes)} (hR:Reads R (some A) (l.map (·.1))) (hl:∀ p∈l,p∈bl) (hk:l.length<=1073741824) (hn:(l.flatMap (·.2)).length<=1073741824):Spec Tryz.prog 164 #[.slice (some A) l.length c] [R,blobs bl]
  fun F v M=>M=rowR 5 1 v (l.flatMap (·.2)).length (bvs (l.flatMap (·.2))) :: R :: blobs bl :: F:=by
 refine Spec.intro Tryz.func164 rfl rfl fun B F=>?_
 simp only [Tryz.ntmps164,List.cons_append,List.nil_append,env0,Nat.reduceAdd]
 obtain ⟨ab,ao,asp⟩:=A
 have hsp:asp=none:=hR.1
 subst hsp
 refine .emp (A:=rowR 5 1 (.slice none 0 0) 0 (bvs [])) (rowR.nil _) ?_
 refine .sr (.assign (.z (.seq (.sr (.move ?_)))))
 refine .lenS ?_ sl238
 refine .move (.z (.block ?_))
 refine .loopA (σ:=Nat×Value) (fun s=>[(2,s.2),(5,.slice (some ⟨ab,ao,none⟩) l.length c),(6,.int .i64 (l.length:Int)),(7,.int .i64 ((s.1:Nat):Int))]) (fun s=>rowR 5 1 s.2 ((l.take s.1).flatMap (·.2)).length (bvs ((l.take s.1).flatMap (·.2))) :: R :: blobs bl :: F) (fun s=>s.1<=l.length) (fun s=>l.length - s.1) (0,.slice none 0 0) (Nat.zero_le _) ?_
 rintro s hs
 obtain ⟨i,u⟩:=s
 simp only at hs
 refine .sr ?_
 refine .lss ?_
 refine .z (.seq ?_)
 refine .cond rfl (fun hd=>?_) (fun hd=>?_)
 ·have hlt:i < l.length:=by have h:(i:Int) < (l.length:Int):=of_decide_eq_true hd;omega
  obtain ⟨pv,px,hp⟩:∃ pv px,l[i]?=some (pv,px):=⟨_,_,List.getElem?_eq_getElem hlt⟩
  have hmem:(pv,px)∈bl:=hl _ (List.mem_of_getElem? hp)
  obtain ⟨hf1,hf2⟩:=flat_take hp
  refine .fact (blobs_shape hmem) fun ⟨gb,cb,hvs,hcb⟩=>?_
  subst hvs
  refine .skip (.next (.seq (.block (.sr ?_))))
  refine .idx1 ?_ so238
  refine .ldR (i:=i) ?_ sc59 hR (by rw [List.getElem?_map,hp];rfl)
  refine .assign (.y (.move (.move ?_)))
  refine .append (m:=px.length) (news:=bvs px) (R:=blobs bl) so59 (by decide) (by repeat (first | exact .here | apply Rem.there | apply Repl.there | apply Mem.there)) (Reads.blob hmem) (by repeat (first | exact .here | apply Rem.there | apply Repl.there | apply Mem.there)) (by rw [bvs_length,Nat.mul_one]) (bvs_single _) (by show ((l.take i).flatMap (·.2)).length+px.length<=maxLen;unfold maxLen;omega) (by show (((l.take i).flatMap (·.2)).length+px.length) * 1<=140737488355328;omega) ⟨_,z5,rfl⟩ (fun v' hv'=>?_)
  refine .assign (.nil (.blockNormal (.next (.region ?_))))
  refine .add ?_
  refine .move (.nil ?_)
  exact .back (i+1,v') (by show i+1<=l.length;omega) (show l.length - (i+1) < l.length - i by omega) (hI:=by rw [show (i+1,v').1=i+1 from rfl,hf1,List.length_append,bvs_append];exact Am.auto)
 ·have hge:i=l.length:=by have h:¬ (i:Int) < (l.length:Int):=of_decide_eq_false hd;omega
  subst hge
  rw [List.take_length]
  refine .exit (.thenExit (.thenExit (.blockExit (?_))))
  refine .next (.sr (.move (.assign (.z ?_))))
  refine .ret (?_)
  exact .ret1 (h1:=.tmp (t:=2) rfl) ⟨_,rfl,Am.auto⟩
def flN (a b:Bool):Nat:=(if a then 1 else 0)+(if b then 2 else 0)
def flB (r:Rc):Bytes:=[UInt8.ofNat (flN r.hk r.hv)]
def txtB (s:Bytes):Bytes:=vint s.length++s
def encB (r:Rc) (first:Int):Bytes:=flB r++(vint r.off.toNat++(vint (zigN (r.time - first))++((if r.hk then txtB r.key else [])++(if r.hv then txtB r.val else []))))
def encE (r:Rc) (first:Int):Int:=if ckE r=0 then (if first < 0 ∨ 1125899906842624 < first then 1 else 0) else ckE r
theorem ckE_ok {r:Rc} (h:ckE r=0):(r.key.length<=2000/\r.val.length<=2000)/\(0<=r.time/\r.time<=1125899906842624)/\(0<=r.off/\r.off < 100):=by
 unfold ckE at h
 by_cases h1:r.odd=true
 ·rw [if_pos h1] at h;cases h
 ·rw [if_neg h1] at h
  by_cases h2:r.big=true
  ·rw [if_pos h2] at h;cases h
  ·simp only [Rc.odd,Rc.big,Bool.or_eq_true,decide_eq_true_eq] at h1 h2
   omega
theorem encB_len {r:Rc} {first:Int} (h:ckE r=0):(encB r first).length<=4100:=by
 obtain ⟨⟨h1,h2⟩,h3,h4⟩:=ckE_ok h
 have a:=vint_len10 (n:=r.off.toNat) (by omega)
 have b:=vint_len10 (zigN_lt (r.time - first))
 have c:=vint_len10 (n:=r.key.length) (by omega)
 have d:=vint_len10 (n:=r.val.length) (by omega)
 unfold encB flB txtB
 simp only [List.length_append,List.length_cons,List.length_nil]
 split<;>split<;>simp only [List.length_append,List.length_nil]<;>omega
theorem bsBB3 (A0 A1 A2:Option Addr) (n0 c0 n1 c1 n2 c2:Nat):BuildSOk Tryz.prog 238 3 [(0,.slice A0 n0 c0),(1,.slice A1 n1 c1),(2,.slice A2 n2 c2)] 59 #[.slice A0 n0 c0,.slice A1 n1 c1,.slice A2 n2 c2]:=fun w=>by kernel_rfl
theorem bsBB1 (A0:Option Addr) (n0 c0:Nat):BuildSOk Tryz.prog 238 1 [(0,.slice A0 n0 c0)] 59 #[.slice A0 n0 c0]:=fun w=>by kernel_rfl
theorem recEncode {r:Rc} {first:Int}:Spec Tryz.prog 114 #[.agg r.v.toArray,.int .i64 first] []
  fun F v M=>(encE r first≠0/\v=.tuple #[.slice none 0 0,.int .i64 (encE r first)]/\M=F) ∨
   (ckE r=0/\encE r first=0/\∃ u,v=.tuple #[u,.int .i64 0]/\M=rowR 5 1 u (encB r first).length (bvs (encB r first)) :: F):=by
 refine Spec.intro Tryz.func114 rfl rfl fun B F=>?_
 simp only [Tryz.ntmps114,List.cons_append,List.nil_append,env0,Nat.reduceAdd]
 obtain ⟨hk,key,hv,val,time,off⟩:=r
 refine .sr ?_
 refine .box fun b2=>?_
 refine .assign (.assign (.z (.seq (.sr ?_))))
 refine .ldA ?_ agg66
 refine .call (hc:=Tryz.call113) (sp:=recCheck (r:=⟨hk,key,hv,val,time,off⟩)) (h:=?_)
 rintro _ _ ⟨rfl,rfl⟩
 refine .assign (.x (.move ?_))
 refine .nei ?_
 refine .z ?_
 refine .cond rfl (fun he=>?_) (fun he=>?_)
 ·have hne:ckE ⟨hk,key,hv,val,time,off⟩≠0:=of_decide_eq_true (by simpa using he)
  have hE:encE ⟨hk,key,hv,val,time,off⟩ first=ckE ⟨hk,key,hv,val,time,off⟩:=by unfold encE;rw [if_neg hne]
  refine .sr (.move (.assign (.assign (.z ?_))))
  refine .ret (.thenRet (?_))
  exact .ret2 (h1:=.tmp (t:=4) rfl) (h2:=.tmp (t:=5) rfl) ⟨_,.inl ⟨by rw [hE];exact hne,by rw [hE],rfl⟩,Am.auto⟩
 ·have hck:ckE ⟨hk,key,hv,val,time,off⟩=0:=by simpa using he
  obtain ⟨⟨hkl,hvl⟩,ht,ho⟩:=ckE_ok hck
  simp only at hkl hvl ht ho
  refine .skip (.next (.seq (.sr (.move ?_))))
  refine .lss ?_
  refine .move ?_
  refine .split (t:=16) rfl (fun hf1=>?_) (fun hf1=>?_)
  ·have hlt:first < 0:=of_decide_eq_true hf1
   have hE:encE ⟨hk,key,hv,val,time,off⟩ first=1:=by unfold encE;rw [if_pos hck,if_pos (.inl hlt)]
   refine .gF ?_
   refine .gF ?_
   refine .pickT ?_
   refine .z ?_
   refine .condT rfl rfl ?_
   refine .sr (.assign (.assign (.z ?_)))
   refine .ret (.thenRet (?_))
   exact .ret2 (h1:=.tmp (t:=4) rfl) (h2:=.tmp (t:=5) rfl) ⟨_,.inl ⟨by rw [hE];decide,by rw [hE],rfl⟩,Am.auto⟩
  ·have hge:¬ first < 0:=of_decide_eq_false hf1
   refine .gT ?_
   refine .move ?_
   refine .gT ?_
   refine .gtr ?_
   refine .pickF ?_
   refine .z ?_
   refine .cond rfl (fun hf2=>?_) (fun hf2=>?_)
   ·have hlt:1125899906842624 < first:=of_decide_eq_true hf2
    have hE:encE ⟨hk,key,hv,val,time,off⟩ first=1:=by unfold encE;rw [if_pos hck,if_pos (.inr hlt)]
    refine .sr (.assign (.assign (.z ?_)))
    refine .ret (.thenRet (?_))
    exact .ret2 (h1:=.tmp (t:=4) rfl) (h2:=.tmp (t:=5) rfl) ⟨_,.inl ⟨by rw [hE];decide,by rw [hE],rfl⟩,Am.auto⟩
   ·have hle:¬ 1125899906842624 < first:=of_decide_eq_false hf2
    have hE:encE ⟨hk,key,hv,val,time,off⟩ first=0:=by unfold encE;rw [if_pos hck,if_neg (by omega)]
    refine .skip (.next (.sr (.assign (.z (.seq (.sr ?_))))))
    refine .fa ?_ fo66_0
    refine .ld ?_ sc4
    refine .z ?_
    refine .join (σ:=Int) (fun s=>[(1,.int .i64 first),(2,.pointer (some ⟨b2,0,none⟩)),(7,.int .u8 s)]) (fun _=>[pt b2 (.cells #[.bool hk,sv key,.bool hv,sv val,.int .i64 time,.int .i64 off] 66 (0,0))]++F) (fun s=>s=if hk then 1 else 0) ?_ ?_
    ·refine .cond rfl (fun h1=>?_) (fun h1=>?_)
     ·refine .region (.move ?_)
      refine .or ?_
      refine .assign (.nil ?_)
      exact .joined (bor .u8 0 1) (by rw [show hk=true from h1];decide)
     ·refine .skip ?_
      exact .joined 0 (by rw [show hk=false from h1];rfl)
    ·rintro s1 hs1
     refine .next (.seq (.sr ?_))
     refine .fa ?_ fo66_2
     refine .ld ?_ sc4
     refine .z ?_
     refine .join (σ:=Int) (fun s=>[(1,.int .i64 first),(2,.pointer (some ⟨b2,0,none⟩)),(7,.int .u8 s)]) (fun _=>[pt b2 (.cells #[.bool hk,sv key,.bool hv,sv val,.int .i64 time,.int .i64 off] 66 (0,0))]++F) (fun s=>s=(((UInt8.ofNat (flN hk hv)).toNat:Nat):Int)) ?_ ?_
     ·refine .cond rfl (fun h2=>?_) (fun h2=>?_)
      ·refine .region (.move ?_)
       refine .or ?_
       refine .assign (.nil ?_)
       exact .joined (bor .u8 s1 2) (by rw [show hv=true from h2,hs1];cases hk<;>decide)
      ·refine .skip ?_
       exact .joined s1 (by rw [show hv=false from h2,hs1];cases hk<;>decide)
     ·rintro s2 hs2
      refine .next (.seq ?_)
      subst hs2
      have hoffc:IntKind.u64.wrap off=((off.toNat:Nat):Int):=by rw [show off=((off.toNat:Nat):Int) by omega,u64_wrap0 (by omega)];rfl
      refine .blobsNil ?_
      refine .join (σ:=Value×List (Value×Bytes)) (fun s=>[(2,.pointer (some ⟨b2,0,none⟩)),(8,s.1)]) (fun s=>[pt b2 (.cells #[.bool hk,sv key,.bool hv,sv val,.int .i64 time,.int .i64 off] 66 (0,0)),rowR 59 1 s.1 s.2.length (s.2.map (·.1)),blobs s.2.reverse]++F) (fun s=>s.2.map (·.2)=[flB ⟨hk,key,hv,val,time,off⟩,vint off.toNat,vint (zigN (time - first))]/\s.1≠.slice none 0 0) ?_ ?_
      ·refine .dr ([pt b2 (.cells #[.bool hk,sv key,.bool hv,sv val,.int .i64 time,.int .i64 off] 66 (0,0))]) [] 14 mixed .autoJ ?_
       refine .tk 0 rfl .move ?_
       refine .tk 2 rfl (.fa fo66_5) ?_
       refine .tk 3 rfl (.ld sc3) ?_
       refine .tk 4 rfl ((Qt.cvt un3 un148).eq (congrArg (Value.int .u64) hoffc)) ?_
       refine .tk 6 rfl (.fa fo66_4) ?_
       refine .tk 7 rfl (.ld sc3) ?_
       refine .tk 8 rfl .move ?_
       refine .tk 9 rfl .sub ?_
       refine .tw 1 5 rfl rfl (fun hnp=>?_) (fun hnp=>?_)
       ·refine .buildS (fun b29=>?_) (bsb1 _)
        refine .nil (.wa hnp ?_)
        refine .on 5 rfl fun hnp=>?_
        refine .call (hc:=Tryz.call161) (sp:=bitsVarint (n:=off.toNat) (by omega)) (h:=?_)
        rintro v5 _ ⟨hn5,rfl⟩
        refine .toE (buf_of_rowR hn5) ?_
        rintro ⟨g5,q5⟩ ⟨rfl,h5a,h5b,_⟩
        refine .nil (.wa hnp ?_)
        refine .on 10 rfl fun hnp=>?_
        refine .call (hc:=Tryz.call162) (sp:=bitsZig (v:=time - first)) (h:=?_)
        rintro _ _ ⟨rfl,rfl⟩
        refine .nil (.wa hnp ?_)
        refine .on 11 rfl fun hnp=>?_
        refine .call (hc:=Tryz.call161) (sp:=bitsVarint (n:=zigN (time - first)) (zigN_lt _)) (h:=?_)
        rintro v11 _ ⟨hn11,rfl⟩
        refine .toE (buf_of_rowR hn11) ?_
        rintro ⟨g11,q11⟩ ⟨rfl,h11a,h11b,_⟩
        refine .nil (.wa hnp ?_)
        refine .on 12 rfl fun hnp=>?_
        refine .buildS (fun b40=>?_) (bsBB3 _ _ _ _ _ _ _ _ _)
        refine .nil (.wa hnp ?_)
        refine .tk 13 rfl .assign ?_
        refine .fin ?_
        refine .to (A':=buf b40 59 3 [.slice (some ⟨b29,0,none⟩) 1 1,.slice (some ⟨g5,0,none⟩) (vint off.toNat).length q5,.slice (some ⟨g11,0,none⟩) (vint (zigN (time - first))).length q11]) (buf_of_pt rfl) ?_
        refine .to (rowR_of_buf (cap:=3) (by decide)) ?_
        refine .to (A:=pt b29 (.cells #[.int .u8 (((UInt8.ofNat (flN hk hv)).toNat:Nat):Int)] 5 (0,0))) (A':=buf b29 5 1 (bvs (flB ⟨hk,key,hv,val,time,off⟩))) (buf_of_pt rfl) ?_
        refine .blobsAdd (xs:=flB ⟨hk,key,hv,val,time,off⟩) (k:=1) (Nat.le_refl 1) ?_
        refine .blobsAdd (xs:=vint off.toNat) (k:=q5) h5a ?_
        refine .blobsAdd (xs:=vint (zigN (time - first))) (k:=q11) h11a ?_
        exact .joined (.slice (some ⟨b40,0,none⟩) 3 3,[(.slice (some ⟨b29,0,none⟩) 1 1,flB ⟨hk,key,hv,val,time,off⟩),(.slice (some ⟨g5,0,none⟩) (vint off.toNat).length q5,vint off.toNat),(.slice (some ⟨g11,0,none⟩) (vint (zigN (time - first))).length q11,vint (zigN (time - first)))]) ⟨rfl,by simp⟩
       ·refine .call (hc:=Tryz.call161) (sp:=bitsVarint (n:=off.toNat) (by omega)) (h:=?_)
        rintro v5 _ ⟨hn5,rfl⟩
        refine .toE (buf_of_rowR hn5) ?_
        rintro ⟨g5,q5⟩ ⟨rfl,h5a,h5b,_⟩
        refine .nil (.wa hnp ?_)
        refine .tw 1 10 rfl rfl (fun hnp=>?_) (fun hnp=>?_)
        ·refine .buildS (fun b29=>?_) (bsb1 _)
         refine .nil (.wa hnp ?_)
         refine .on 10 rfl fun hnp=>?_
         refine .call (hc:=Tryz.call162) (sp:=bitsZig (v:=time - first)) (h:=?_)
         rintro _ _ ⟨rfl,rfl⟩
         refine .nil (.wa hnp ?_)
         refine .on 11 rfl fun hnp=>?_
         refine .call (hc:=Tryz.call161) (sp:=bitsVarint (n:=zigN (time - first)) (zigN_lt _)) (h:=?_)
         rintro v11 _ ⟨hn11,rfl⟩
         refine .toE (buf_of_rowR hn11) ?_
         rintro ⟨g11,q11⟩ ⟨rfl,h11a,h11b,_⟩
         refine .nil (.wa hnp ?_)
         refine .on 12 rfl fun hnp=>?_
         refine .buildS (fun b40=>?_) (bsBB3 _ _ _ _ _ _ _ _ _)
         refine .nil (.wa hnp ?_)
         refine .tk 13 rfl .assign ?_
         refine .fin ?_
         refine .to (A':=buf b40 59 3 [.slice (some ⟨b29,0,none⟩) 1 1,.slice (some ⟨g5,0,none⟩) (vint off.toNat).length q5,.slice (some ⟨g11,0,none⟩) (vint (zigN (time - first))).length q11]) (buf_of_pt rfl) ?_
         refine .to (rowR_of_buf (cap:=3) (by decide)) ?_
         refine .to (A:=pt b29 (.cells #[.int .u8 (((UInt8.ofNat (flN hk hv)).toNat:Nat):Int)] 5 (0,0))) (A':=buf b29 5 1 (bvs (flB ⟨hk,key,hv,val,time,off⟩))) (buf_of_pt rfl) ?_
         refine .blobsAdd (xs:=flB ⟨hk,key,hv,val,time,off⟩) (k:=1) (Nat.le_refl 1) ?_
         refine .blobsAdd (xs:=vint off.toNat) (k:=q5) h5a ?_
         refine .blobsAdd (xs:=vint (zigN (time - first))) (k:=q11) h11a ?_
         exact .joined (.slice (some ⟨b40,0,none⟩) 3 3,[(.slice (some ⟨b29,0,none⟩) 1 1,flB ⟨hk,key,hv,val,time,off⟩),(.slice (some ⟨g5,0,none⟩) (vint off.toNat).length q5,vint off.toNat),(.slice (some ⟨g11,0,none⟩) (vint (zigN (time - first))).length q11,vint (zigN (time - first)))]) ⟨rfl,by simp⟩
        ·refine .call (hc:=Tryz.call162) (sp:=bitsZig (v:=time - first)) (h:=?_)
         rintro _ _ ⟨rfl,rfl⟩
         refine .nil (.wa hnp ?_)
         refine .tw 1 11 rfl rfl (fun hnp=>?_) (fun hnp=>?_)
         ·refine .buildS (fun b29=>?_) (bsb1 _)
          refine .nil (.wa hnp ?_)
          refine .on 11 rfl fun hnp=>?_
          refine .call (hc:=Tryz.call161) (sp:=bitsVarint (n:=zigN (time - first)) (zigN_lt _)) (h:=?_)
          rintro v11 _ ⟨hn11,rfl⟩
          refine .toE (buf_of_rowR hn11) ?_
          rintro ⟨g11,q11⟩ ⟨rfl,h11a,h11b,_⟩
          refine .nil (.wa hnp ?_)
          refine .on 12 rfl fun hnp=>?_
          refine .buildS (fun b40=>?_) (bsBB3 _ _ _ _ _ _ _ _ _)
          refine .nil (.wa hnp ?_)
          refine .tk 13 rfl .assign ?_
          refine .fin ?_
          refine .to (A':=buf b40 59 3 [.slice (some ⟨b29,0,none⟩) 1 1,.slice (some ⟨g5,0,none⟩) (vint off.toNat).length q5,.slice (some ⟨g11,0,none⟩) (vint (zigN (time - first))).length q11]) (buf_of_pt rfl) ?_
          refine .to (rowR_of_buf (cap:=3) (by decide)) ?_
          refine .to (A:=pt b29 (.cells #[.int .u8 (((UInt8.ofNat (flN hk hv)).toNat:Nat):Int)] 5 (0,0))) (A':=buf b29 5 1 (bvs (flB ⟨hk,key,hv,val,time,off⟩))) (buf_of_pt rfl) ?_
          refine .blobsAdd (xs:=flB ⟨hk,key,hv,val,time,off⟩) (k:=1) (Nat.le_refl 1) ?_
          refine .blobsAdd (xs:=vint off.toNat) (k:=q5) h5a ?_
          refine .blobsAdd (xs:=vint (zigN (time - first))) (k:=q11) h11a ?_
          exact .joined (.slice (some ⟨b40,0,none⟩) 3 3,[(.slice (some ⟨b29,0,none⟩) 1 1,flB ⟨hk,key,hv,val,time,off⟩),(.slice (some ⟨g5,0,none⟩) (vint off.toNat).length q5,vint off.toNat),(.slice (some ⟨g11,0,none⟩) (vint (zigN (time - first))).length q11,vint (zigN (time - first)))]) ⟨rfl,by simp⟩
         ·refine .call (hc:=Tryz.call161) (sp:=bitsVarint (n:=zigN (time - first)) (zigN_lt _)) (h:=?_)
          rintro v11 _ ⟨hn11,rfl⟩
          refine .toE (buf_of_rowR hn11) ?_
          rintro ⟨g11,q11⟩ ⟨rfl,h11a,h11b,_⟩
          refine .nil (.wa hnp ?_)
          refine .on 1 rfl fun hnp=>?_
          refine .buildS (fun b29=>?_) (bsb1 _)
          refine .nil (.wa hnp ?_)
          refine .on 12 rfl fun hnp=>?_
          refine .buildS (fun b40=>?_) (bsBB3 _ _ _ _ _ _ _ _ _)
          refine .nil (.wa hnp ?_)
          refine .tk 13 rfl .assign ?_
          refine .fin ?_
          refine .to (A':=buf b40 59 3 [.slice (some ⟨b29,0,none⟩) 1 1,.slice (some ⟨g5,0,none⟩) (vint off.toNat).length q5,.slice (some ⟨g11,0,none⟩) (vint (zigN (time - first))).length q11]) (buf_of_pt rfl) ?_
          refine .to (rowR_of_buf (cap:=3) (by decide)) ?_
          refine .to (A:=pt b29 (.cells #[.int .u8 (((UInt8.ofNat (flN hk hv)).toNat:Nat):Int)] 5 (0,0))) (A':=buf b29 5 1 (bvs (flB ⟨hk,key,hv,val,time,off⟩))) (buf_of_pt rfl) ?_
          refine .blobsAdd (xs:=flB ⟨hk,key,hv,val,time,off⟩) (k:=1) (Nat.le_refl 1) ?_
          refine .blobsAdd (xs:=vint off.toNat) (k:=q5) h5a ?_
          refine .blobsAdd (xs:=vint (zigN (time - first))) (k:=q11) h11a ?_
          exact .joined (.slice (some ⟨b40,0,none⟩) 3 3,[(.slice (some ⟨b29,0,none⟩) 1 1,flB ⟨hk,key,hv,val,time,off⟩),(.slice (some ⟨g5,0,none⟩) (vint off.toNat).length q5,vint off.toNat),(.slice (some ⟨g11,0,none⟩) (vint (zigN (time - first))).length q11,vint (zigN (time - first)))]) ⟨rfl,by simp⟩
      ·rintro s3 hs3
       refine .next (.seq (.sr ?_))
       refine .fa ?_ fo66_0
       refine .ld ?_ sc4
       refine .z ?_
       refine .join (σ:=Value×List (Value×Bytes)) (fun s=>[(2,.pointer (some ⟨b2,0,none⟩)),(8,s.1)]) (fun s=>[pt b2 (.cells #[.bool hk,sv key,.bool hv,sv val,.int .i64 time,.int .i64 off] 66 (0,0)),rowR 59 1 s.1 s.2.length (s.2.map (·.1)),blobs s.2.reverse]++F) (fun s=>s.2.map (·.2)=[flB ⟨hk,key,hv,val,time,off⟩,vint off.toNat,vint (zigN (time - first))]++(if hk then [txtB key] else [])/\s.1≠.slice none 0 0) ?_ ?_
       ·refine .cond rfl (fun hk=>?_) (fun hk=>?_)
        ·obtain ⟨lv,l⟩:=s3
         obtain ⟨hl,hnn⟩:=hs3
         simp only at hl hnn
         have hll:l.length<=4:=by have:=congrArg List.length hl;simp at this;omega
         refine .region (.move ?_)
         refine .fa ?_ fo66_1
         refine .ld ?_ sc9
         refine .call (hc:=Tryz.call163) (sp:=recText (s:=key) (by omega)) (h:=?_)
         rintro vt _ ⟨hnt,rfl⟩
         refine .toE (buf_of_rowR hnt) ?_
         rintro ⟨gt,qt⟩ ⟨rfl,hta,htb,htc⟩
         refine .to (A':=buf gt 5 qt (bvs (txtB key))) (fun h hh=>hh) ?_
         have htl:(txtB key).length=(vint (key).length).length+(key).length:=List.length_append
         refine .blobsAdd (xs:=txtB key) (k:=qt) (by omega) ?_
         refine .buildS (fun b47=>?_) (bsBB1 _ _ _)
         refine .append (m:=1) (news:=[.slice (some ⟨gt,0,none⟩) ((vint (key).length).length+(key).length) qt]) so238 (by decide) (by repeat (first | exact .here | apply Rem.there | apply Repl.there | apply Mem.there)) (Reads.pt (cs:=#[.slice (some ⟨gt,0,none⟩) ((vint (key).length).length+(key).length) qt])) (by repeat (first | exact .here | apply Rem.there | apply Repl.there | apply Mem.there)) rfl (by simp [Value.single]) (by show l.length+1<=maxLen;unfold maxLen;omega) (by show (l.length+1) * 24<=140737488355328;omega) ⟨_,z59,rfl⟩ (fun v' hv'=>?_)
         refine .assign (.nil ?_)
         rw [<- htl]
         exact .joined (v',l++[(.slice (some ⟨gt,0,none⟩) (txtB key).length qt,txtB key)]) ⟨by simp only [List.map_append,hl,hk,if_true];rfl,fun h=>(by have:=(hv'.1 h).2;omega)⟩ (hI:=by simp only [List.length_append,List.length_cons,List.length_nil,List.map_append,List.map_cons,List.map_nil,List.reverse_append,List.reverse_cons,List.reverse_nil,List.nil_append,List.cons_append];exact Am.auto)
        ·refine .skip ?_
         exact .joined s3 ⟨by rw [hs3.1,hk];simp,hs3.2⟩
       ·rintro sk hsk
        refine .next (.seq (.sr ?_))
        refine .fa ?_ fo66_2
        refine .ld ?_ sc4
        refine .z ?_
        refine .join (σ:=Value×List (Value×Bytes)) (fun s=>[(2,.pointer (some ⟨b2,0,none⟩)),(8,s.1)]) (fun s=>[pt b2 (.cells #[.bool hk,sv key,.bool hv,sv val,.int .i64 time,.int .i64 off] 66 (0,0)),rowR 59 1 s.1 s.2.length (s.2.map (·.1)),blobs s.2.reverse]++F) (fun s=>s.2.map (·.2)=[flB ⟨hk,key,hv,val,time,off⟩,vint off.toNat,vint (zigN (time - first))]++(if hk then [txtB key] else [])++(if hv then [txtB val] else [])/\s.1≠.slice none 0 0) ?_ ?_
        ·refine .cond rfl (fun hv=>?_) (fun hv=>?_)
         ·obtain ⟨lv,l⟩:=sk
          obtain ⟨hl,hnn⟩:=hsk
          simp only at hl hnn
          have hll:l.length<=4:=by have:=congrArg List.length hl;simp at this;split at this<;>simp at this<;>omega
          refine .region (.move ?_)
          refine .fa ?_ fo66_3
          refine .ld ?_ sc9
          refine .call (hc:=Tryz.call163) (sp:=recText (s:=val) (by omega)) (h:=?_)
          rintro vt _ ⟨hnt,rfl⟩
          refine .toE (buf_of_rowR hnt) ?_
          rintro ⟨gt,qt⟩ ⟨rfl,hta,htb,htc⟩
          refine .to (A':=buf gt 5 qt (bvs (txtB val))) (fun h hh=>hh) ?_
          have htl:(txtB val).length=(vint (val).length).length+(val).length:=List.length_append
          refine .blobsAdd (xs:=txtB val) (k:=qt) (by omega) ?_
          refine .buildS (fun b55=>?_) (bsBB1 _ _ _)
          refine .append (m:=1) (news:=[.slice (some ⟨gt,0,none⟩) ((vint (val).length).length+(val).length) qt]) so238 (by decide) (by repeat (first | exact .here | apply Rem.there | apply Repl.there | apply Mem.there)) (Reads.pt (cs:=#[.slice (some ⟨gt,0,none⟩) ((vint (val).length).length+(val).length) qt])) (by repeat (first | exact .here | apply Rem.there | apply Repl.there | apply Mem.there)) rfl (by simp [Value.single]) (by show l.length+1<=maxLen;unfold maxLen;omega) (by show (l.length+1) * 24<=140737488355328;omega) ⟨_,z59,rfl⟩ (fun v' hv'=>?_)
          refine .assign (.nil ?_)
          rw [<- htl]
          exact .joined (v',l++[(.slice (some ⟨gt,0,none⟩) (txtB val).length qt,txtB val)]) ⟨by simp only [List.map_append,hl,hv,if_true];rfl,fun h=>(by have:=(hv'.1 h).2;omega)⟩ (hI:=by simp only [List.length_append,List.length_cons,List.length_nil,List.map_append,List.map_cons,List.map_nil,List.reverse_append,List.reverse_cons,List.reverse_nil,List.nil_append,List.cons_append];exact Am.auto)
         ·refine .skip ?_
          exact .joined sk ⟨by rw [hsk.1,hv];simp,hsk.2⟩
        ·rintro sv hsv
         obtain ⟨hl,hnn⟩:=hsv
         have hfl:sv.2.flatMap (·.2)=encB ⟨hk,key,hv,val,time,off⟩ first:=by
          rw [show sv.2.flatMap (·.2)=(sv.2.map (·.2)).flatten by rw [List.flatMap_def],hl]
          unfold encB
          cases hk<;>cases hv<;>simp
         have hel:=encB_len (first:=first) hck
         have hll:1<=sv.2.length/\sv.2.length<=5:=by
          have:=congrArg List.length hl
          rw [List.length_map] at this
          rw [this]
          cases hk<;>cases hv<;>simp
         refine .next (.sr ?_)
         refine .rowOpen (v:=sv.1) (hx:=fun h=>by have:=congrArg List.length h;rw [List.length_map] at this;simp only [List.length_nil] at this;omega) fun A4 c4 hv4 hR4 h41 h42=>?_
         refine .cast (d:=8) rfl hv4 ?_
         refine .move ?_
         refine .call (hc:=Tryz.call164) (sp:=recJoin (l:=sv.2) (bl:=sv.2.reverse) hR4 (fun p hp=>by simpa using hp) (by omega) (by rw [hfl];omega)) (h:=?_)
         rintro vj _ rfl
         rw [hfl]
         refine .assign (.assign (.z ?_))
         refine .ret (?_)
         exact .ret2 (h1:=.tmp (t:=4) rfl) (h2:=.tmp (t:=5) rfl) ⟨_,.inr ⟨hck,hE,vj,rfl,rfl⟩,Am.auto⟩
theorem z123 :zeroOf Tryz.prog 123=some (#[.int .i64 0,.int .i64 0,.int .i64 0,.int .i64 0,.int .i64 0,.int .i64 0,.int .i64 0,.int .i64 0,.int .i64 0,.int .i64 0]):=by kernel_rfl
theorem agg123 :aggOk Tryz.prog 123 10=true:=by kernel_rfl
theorem fo34_0 :fieldOk Tryz.prog 34 0 0=true:=by kernel_rfl
theorem fo34_1 :fieldOk Tryz.prog 34 1 1=true:=by kernel_rfl
theorem fo34_2 :fieldOk Tryz.prog 34 2 2=true:=by kernel_rfl
theorem fo34_3 :fieldOk Tryz.prog 34 3 3=true:=by kernel_rfl
theorem fo34_4 :fieldOk Tryz.prog 34 4 4=true:=by kernel_rfl
theorem sc32 :scalarOk Tryz.prog 32=true:=by kernel_rfl
theorem sl32 :Tryz.prog.underlying 32=some (.slice 66):=by kernel_rfl
theorem so32 :sliceOk Tryz.prog 32 66 6 64=true:=by kernel_rfl
theorem z66 :zeroOf Tryz.prog 66=some (#[.bool false,.string ⟨#[]⟩,.bool false,.string ⟨#[]⟩,.int .i64 0,.int .i64 0]):=by kernel_rfl
theorem agg34 :aggOk Tryz.prog 34 5=true:=by kernel_rfl
theorem z122 :zeroOf Tryz.prog 122=some (#[.int .i64 0,.int .i64 0]):=by kernel_rfl
theorem agg122 :aggOk Tryz.prog 122 2=true:=by kernel_rfl
theorem fo122_0 :fieldOk Tryz.prog 122 0 0=true:=by kernel_rfl
theorem fo122_1 :fieldOk Tryz.prog 122 1 1=true:=by kernel_rfl
theorem bdFld (a b:Int):BuildOk Tryz.prog 122 [(0,.int .i64 a),(1,.int .i64 b)] #[.int .i64 a,.int .i64 b]:=fun w=>by kernel_rfl
abbrev numsC :Array Value:=#[.int .i64 16,.int .i64 8,.int .i64 24,.int .i64 8,.int .i64 32,.int .i64 4,.int .i64 36,.int .i64 4,.int .i64 40,.int .i64 8]
theorem bdNums :BuildOk Tryz.prog 123 [(0,.agg #[.int .i64 16,.int .i64 8]),(1,.agg #[.int .i64 24,.int .i64 8]),(2,.agg #[.int .i64 32,.int .i64 4]),(3,.agg #[.int .i64 36,.int .i64 4]),(4,.agg #[.int .i64 40,.int .i64 8])] numsC:=fun w=>by kernel_rfl
theorem ixNum0 (w:World):(Instr.index 123 (.agg numsC) (.int .i64 0)).run Tryz.prog w=.ok (.agg #[.int .i64 16,.int .i64 8]) w:=by kernel_rfl
theorem ixNum1 (w:World):(Instr.index 123 (.agg numsC) (.int .i64 1)).run Tryz.prog w=.ok (.agg #[.int .i64 24,.int .i64 8]) w:=by kernel_rfl
theorem ixNum2 (w:World):(Instr.index 123 (.agg numsC) (.int .i64 2)).run Tryz.prog w=.ok (.agg #[.int .i64 32,.int .i64 4]) w:=by kernel_rfl
theorem ixNum3 (w:World):(Instr.index 123 (.agg numsC) (.int .i64 3)).run Tryz.prog w=.ok (.agg #[.int .i64 36,.int .i64 4]) w:=by kernel_rfl
theorem ixNum4 (w:World):(Instr.index 123 (.agg numsC) (.int .i64 4)).run Tryz.prog w=.ok (.agg #[.int .i64 40,.int .i64 8]) w:=by kernel_rfl
theorem batNumbers :Spec Tryz.prog 72 #[] [] fun F v M=>v=.agg numsC/\M=F:=by
 refine Spec.intro Tryz.func72 rfl rfl fun B F=>?_
 simp only [Tryz.ntmps72,List.cons_append,List.nil_append,env0,Nat.reduceAdd]
 refine .sr ?_
 refine .alloc z123 fun b0=>?_
 refine .x ?_
 refine .build ?_ (bdFld _ _)
 refine .build ?_ (bdFld _ _)
 refine .build ?_ (bdFld _ _)
 refine .build ?_ (bdFld _ _)
 refine .build ?_ (bdFld _ _)
 refine .build ?_ bdNums
 refine .stV ?_ agg123
 refine .z ?_
 refine .ret (?_)
 exact .ret1 ⟨_,⟨rfl,rfl⟩,Am.auto⟩
def u64N (v:Int):Nat:=(IntKind.u64.wrap v).toNat
theorem u64N_lt (v:Int):u64N v < 2 ^ 64:=by have:=u64_rng v;unfold u64N;omega
theorem u64N_eq (v:Int):IntKind.u64.wrap v=((u64N v:Nat):Int):=by have:=u64_rng v;unfold u64N;omega
theorem u64N_nat {a:Nat} (h:a < 2 ^ 64):u64N (a:Int)=a:=by unfold u64N;rw [u64_wrap0 h];rfl
theorem batPut {R:HP} {A:Addr} {n c:Nat} {xs:Bytes} {p size v:Int} (hR:Reads R (some A) (bvs xs)) (hn:xs.length=n) (hl:n<=1073741824) (hs:1<=size/\size<=8) (h0:0<=p) (h1:p<=(n:Int) - size):Spec Tryz.prog 112 #[.slice (some A) n c,.int .i64 p,.int .i64 size,.int .i64 v] [R]
  fun F u M=>∃ g q,(u=.slice (some ⟨g,0,none⟩) n q/\n<=q/\q<=maxLen)/\M=buf g 5 q (bvs (put xs p.toNat size.toNat true (u64N v))) :: R :: F:=by
 refine Spec.intro Tryz.func112 rfl rfl fun B F=>?_
 simp only [Tryz.ntmps112,List.cons_append,List.nil_append,env0,Nat.reduceAdd]
 refine .sr (.assign (.x (.move (.move (.move (.move ?_))))))
 refine .cvt ?_ un3 un148
 refine .cast (d:=16) (u:=.int .u64 ((u64N v:Nat):Int)) rfl (congrArg (Value.int .u64) (u64N_eq v)) ?_
 refine .call (hc:=Tryz.call82) (sp:=bitsPut (xs:=xs) (v:=u64N v) hR hn hl hs h0 h1 (u64N_lt v)) (h:=?_)
 rintro _ _ ⟨gq,kq,⟨rfl,h1,h2⟩,rfl⟩
 refine .move ?_
 refine .extract ?_
 refine .extract ?_
 refine .assign (.assign (.x (.move (.assign (.z ?_)))))
 refine .ret (?_)
 exact .ret1 (h1:=.tmp (t:=8) rfl) ⟨_,⟨gq,kq,⟨rfl,h1,h2⟩,rfl⟩,Am.auto⟩
structure Bt where
 base:Int
 span:Int
 prod:Int
 seq:Int
 recs:List Rc
def Bt.v (b:Bt) (s:Value):List Value:=[.int .i64 b.base,.int .i64 b.span,.int .i64 b.prod,.int .i64 b.seq,s]
def Bt.rv (b:Bt):List Value:=b.recs.flatMap Rc.v
def headBad (b:Bt):Bool:=decide (b.base < 0) || (decide (1125899906842624 < b.base) || (decide (b.span < 1) || (decide (100 < b.span) || (decide (b.prod < 0) || (decide (b.seq < 0) || decide (((b.recs.length:Nat):Int)=0))))))
def offAt (b:Bt) (i:Nat):Int:=((b.recs[i]?).map Rc.off).getD 0
def offRow (b:Bt) (i:Nat):Bool:=!(decide (b.span<=offAt b i) || (decide ((0:Int) < ((i:Nat):Int)) && decide (offAt b i<=offAt b (i - 1))))
def offsOk (b:Bt):Bool:=!headBad b && (List.range b.recs.length).all (offRow b)
theorem offs_head {b:Bt} (h:headBad b=true):false=offsOk b:=by unfold offsOk;rw [h];rfl
theorem offs_row {b:Bt} {i:Nat} (hi:i < b.recs.length) (h:offRow b i=false):false=offsOk b:=by
 unfold offsOk
 have:(List.range b.recs.length).all (offRow b)=false:=by
  rw [List.all_eq_false]
  exact ⟨i,List.mem_range.2 hi,by simp [h]⟩
 rw [this,Bool.and_false]
theorem offs_all {b:Bt} (h0:headBad b=false) (h:∀ j,j < b.recs.length->offRow b j=true):true=offsOk b:=by
 unfold offsOk
 rw [h0,List.all_eq_true.2 fun j hj=>h j (List.mem_range.1 hj)]
 rfl
theorem offAt_of {b:Bt} {i:Nat} {r:Rc} (h:b.recs[i]?=some r):offAt b i=r.off:=by unfold offAt;rw [h];rfl
theorem batOffsets {R:HP} {A:Option Addr} {c:Nat} {b:Bt} (hR:Reads R A b.rv) (hl:b.recs.length<=1073741824):Spec Tryz.prog 111 #[.agg (b.v (.slice A b.recs.length c)).toArray] [R] fun F v M=>v=.bool (offsOk b)/\M=R :: F:=by
 refine Spec.intro Tryz.func111 rfl rfl fun B F=>?_
 simp only [Tryz.ntmps111,List.cons_append,List.nil_append,env0,Nat.reduceAdd]
 refine .sr ?_
 refine .box fun b1=>?_
 refine .assign (.z (.seq (.sr ?_)))
 refine .fa ?_ fo34_0
 refine .ld ?_ sc3
 refine .lss ?_
 refine .move ?_
 refine .split (t:=8) rfl (fun h1=>?_) (fun h1=>?_)
 ·refine .gF ?_
  refine .gF ?_
  refine .gF ?_
  refine .pickT ?_
  refine .move ?_
  refine .gF ?_
  refine .gF ?_
  refine .gF ?_
  refine .pickT ?_
  refine .move ?_
  refine .gF ?_
  refine .gF ?_
  refine .gF ?_
  refine .pickT ?_
  refine .move ?_
  refine .gF ?_
  refine .gF ?_
  refine .gF ?_
  refine .pickT ?_
  refine .move ?_
  refine .gF ?_
  refine .gF ?_
  refine .gF ?_
  refine .pickT ?_
  refine .move ?_
  refine .gF ?_
  refine .gF ?_
  refine .gF ?_
  refine .gF ?_
  refine .pickT ?_
  refine .z ?_
  refine .condT rfl rfl ?_
  refine .sr (.assign (.z ?_))
  refine .ret (.thenRet (?_))
  exact .ret1 (h1:=.tmp (t:=2) rfl) ⟨_,⟨congrArg Value.bool (offs_head (by simp only [headBad,show _=true from h1,Bool.or_true,Bool.true_or])),rfl⟩,Am.auto⟩
 ·refine .gT ?_
  refine .fa ?_ fo34_0
  refine .gT ?_
  refine .ld ?_ sc3
  refine .gT ?_
  refine .gtr ?_
  refine .pickF ?_
  refine .move ?_
  refine .split (t:=13) rfl (fun h2=>?_) (fun h2=>?_)
  ·refine .gF ?_
   refine .gF ?_
   refine .gF ?_
   refine .pickT ?_
   refine .move ?_
   refine .gF ?_
   refine .gF ?_
   refine .gF ?_
   refine .pickT ?_
   refine .move ?_
   refine .gF ?_
   refine .gF ?_
   refine .gF ?_
   refine .pickT ?_
   refine .move ?_
   refine .gF ?_
   refine .gF ?_
   refine .gF ?_
   refine .pickT ?_
   refine .move ?_
   refine .gF ?_
   refine .gF ?_
   refine .gF ?_
   refine .gF ?_
   refine .pickT ?_
   refine .z ?_
   refine .condT rfl rfl ?_
   refine .sr (.assign (.z ?_))
   refine .ret (.thenRet (?_))
   exact .ret1 (h1:=.tmp (t:=2) rfl) ⟨_,⟨congrArg Value.bool (offs_head (by simp only [headBad,show _=true from h2,Bool.or_true,Bool.true_or])),rfl⟩,Am.auto⟩
  ·refine .gT ?_
   refine .fa ?_ fo34_1
   refine .gT ?_
   refine .ld ?_ sc3
   refine .gT ?_
   refine .lss ?_
   refine .pickF ?_
   refine .move ?_
   refine .split (t:=18) rfl (fun h3=>?_) (fun h3=>?_)
   ·refine .gF ?_
    refine .gF ?_
    refine .gF ?_
    refine .pickT ?_
    refine .move ?_
    refine .gF ?_
    refine .gF ?_
    refine .gF ?_
    refine .pickT ?_
    refine .move ?_
    refine .gF ?_
    refine .gF ?_
    refine .gF ?_
    refine .pickT ?_
    refine .move ?_
    refine .gF ?_
    refine .gF ?_
    refine .gF ?_
    refine .gF ?_
    refine .pickT ?_
    refine .z ?_
    refine .condT rfl rfl ?_
    refine .sr (.assign (.z ?_))
    refine .ret (.thenRet (?_))
    exact .ret1 (h1:=.tmp (t:=2) rfl) ⟨_,⟨congrArg Value.bool (offs_head (by simp only [headBad,show _=true from h3,Bool.or_true,Bool.true_or])),rfl⟩,Am.auto⟩
   ·refine .gT ?_
    refine .fa ?_ fo34_1
    refine .gT ?_
    refine .ld ?_ sc3
    refine .gT ?_
    refine .gtr ?_
    refine .pickF ?_
    refine .move ?_
    refine .split (t:=23) rfl (fun h4=>?_) (fun h4=>?_)
    ·refine .gF ?_
     refine .gF ?_
     refine .gF ?_
     refine .pickT ?_
     refine .move ?_
     refine .gF ?_
     refine .gF ?_
     refine .gF ?_
     refine .pickT ?_
     refine .move ?_
     refine .gF ?_
     refine .gF ?_
     refine .gF ?_
     refine .gF ?_
     refine .pickT ?_
     refine .z ?_
     refine .condT rfl rfl ?_
     refine .sr (.assign (.z ?_))
     refine .ret (.thenRet (?_))
     exact .ret1 (h1:=.tmp (t:=2) rfl) ⟨_,⟨congrArg Value.bool (offs_head (by simp only [headBad,show _=true from h4,Bool.or_true,Bool.true_or])),rfl⟩,Am.auto⟩
    ·refine .gT ?_
     refine .fa ?_ fo34_2
     refine .gT ?_
     refine .ld ?_ sc3
     refine .gT ?_
     refine .lss ?_
     refine .pickF ?_
     refine .move ?_
     refine .split (t:=28) rfl (fun h5=>?_) (fun h5=>?_)
     ·refine .gF ?_
      refine .gF ?_
      refine .gF ?_
      refine .pickT ?_
      refine .move ?_
      refine .gF ?_
      refine .gF ?_
      refine .gF ?_
      refine .gF ?_
      refine .pickT ?_
      refine .z ?_
      refine .condT rfl rfl ?_
      refine .sr (.assign (.z ?_))
      refine .ret (.thenRet (?_))
      exact .ret1 (h1:=.tmp (t:=2) rfl) ⟨_,⟨congrArg Value.bool (offs_head (by simp only [headBad,show _=true from h5,Bool.or_true,Bool.true_or])),rfl⟩,Am.auto⟩
     ·refine .gT ?_
      refine .fa ?_ fo34_3
      refine .gT ?_
      refine .ld ?_ sc3
      refine .gT ?_
      refine .lss ?_
      refine .pickF ?_
      refine .move ?_
      refine .split (t:=33) rfl (fun h6=>?_) (fun h6=>?_)
      ·refine .gF ?_
       refine .gF ?_
       refine .gF ?_
       refine .gF ?_
       refine .pickT ?_
       refine .z ?_
       refine .condT rfl rfl ?_
       refine .sr (.assign (.z ?_))
       refine .ret (.thenRet (?_))
       exact .ret1 (h1:=.tmp (t:=2) rfl) ⟨_,⟨congrArg Value.bool (offs_head (by simp only [headBad,show _=true from h6,Bool.or_true,Bool.true_or])),rfl⟩,Am.auto⟩
      ·refine .gT ?_
       refine .fa ?_ fo34_4
       refine .gT ?_
       refine .ld ?_ sc32
       refine .gT ?_
       refine .lenS ?_ sl32
       refine .gT ?_
       refine .eqi ?_
       refine .pickF ?_
       refine .z ?_
       refine .cond rfl (fun h7=>?_) (fun h7=>?_)
       ·refine .sr (.assign (.z ?_))
        refine .ret (.thenRet (?_))
        exact .ret1 (h1:=.tmp (t:=2) rfl) ⟨_,⟨congrArg Value.bool (offs_head (by simp only [headBad,show _=true from h7,Bool.or_true])),rfl⟩,Am.auto⟩
       ·have hhead:headBad b=false:=by simp only [headBad,show decide (b.base < 0)=false from h1,show decide (1125899906842624 < b.base)=false from h2,show decide (b.span < 1)=false from h3,show decide (100 < b.span)=false from h4,show decide (b.prod < 0)=false from h5,show decide (b.seq < 0)=false from h6,show decide (((b.recs.length:Nat):Int)=0)=false from h7,Bool.or_false]
        have hpos:0 < b.recs.length:=by have h:¬ ((b.recs.length:Nat):Int)=0:=of_decide_eq_false h7;omega
        obtain ⟨ab,ao,rfl⟩:∃ ab ao,A=some ⟨ab,ao,none⟩:=by
         cases A with
         | none =>
          have h0:b.rv=[]:=hR
          have h1:=flat_length Rc.v_len b.recs
          rw [show b.recs.flatMap Rc.v=[] from h0] at h1
          simp at h1
          omega
         | some a =>
          obtain ⟨x,y,z⟩:=a
          have:z=none:=hR.1
          subst this
          exact ⟨x,y,rfl⟩
        refine .skip (.next (.seq (.sr ?_)))
        refine .fa ?_ fo34_4
        refine .ld ?_ sc32
        refine .lenS ?_ sl32
        refine .move (.z (.block ?_))
        refine .loopA (σ:=Nat) (fun i=>[(1,.pointer (some ⟨b1,0,none⟩)),(40,.slice (some ⟨ab,ao,none⟩) b.recs.length c),(41,.int .i64 ((b.recs.length:Nat):Int)),(42,.int .i64 ((i:Nat):Int))]) (fun _=>[pt b1 (.cells #[.int .i64 b.base,.int .i64 b.span,.int .i64 b.prod,.int .i64 b.seq,.slice (some ⟨ab,ao,none⟩) b.recs.length c] 34 (0,0)),R]++F) (fun i=>i<=b.recs.length/\∀ j,j < i->offRow b j=true) (fun i=>b.recs.length - i) 0 ⟨Nat.zero_le _,fun j hj=>absurd hj (Nat.not_lt_zero _)⟩ ?_
        rintro i hp
        refine .sr ?_
        refine .lss ?_
        refine .z (.seq ?_)
        refine .cond rfl (fun hd=>?_) (fun hd=>?_)
        ·have hil:i < b.recs.length:=by have h:(i:Int) < ((b.recs.length:Nat):Int):=of_decide_eq_true hd;omega
         obtain ⟨r,hr⟩:∃ r,b.recs[i]?=some r:=⟨_,List.getElem?_eq_getElem hil⟩
         have hoi:=offAt_of hr
         refine .skip (.next (.seq (.block (.sr (.move ?_)))))
         refine .idx ?_ so32
         refine .ldAR (i:=i * 6) (us:=r.v) ?_ agg66 hR (flat_at Rc.v_len _ _ _ hr) (flat_fit Rc.v_len hil)
         refine .alloc z66 fun b4=>?_
         refine .assign ?_
         refine .stV ?_ agg66
         refine .z (.seq ?_)
         cases h8:decide (b.span<=r.off) with
         | false =>
          cases h9:decide ((0:Int) < ((i:Nat):Int)) with
          | false =>
           refine .dr ([pt b1 (.cells #[.int .i64 b.base,.int .i64 b.span,.int .i64 b.prod,.int .i64 b.seq,.slice (some ⟨ab,ao,none⟩) b.recs.length c] 34 (0,0)),pt b4 (.cells r.v.toArray 66 (0,0)),R]) [] 21 mixed .autoJ ?_
           refine .tk 0 rfl (.fa fo66_5) ?_
           refine .tk 1 rfl (.ld sc3) ?_
           refine .tk 2 rfl (.fa fo34_1) ?_
           refine .tk 3 rfl (.ld sc3) ?_
           refine .tk 4 rfl ((Qt.geq).eq (congrArg Value.bool h8)) ?_
           refine .tk 5 rfl .move ?_
           refine .tn 6 rfl .move ?_
           refine .tn 7 rfl ((Qt.gtr).eq (congrArg Value.bool h9)) ?_
           refine .tn 8 rfl .move ?_
           refine .tf 9 rfl ?_
           refine .tf 10 rfl ?_
           refine .tf 11 rfl ?_
           refine .tf 12 rfl ?_
           refine .tf 13 rfl ?_
           refine .tf 14 rfl ?_
           refine .tf 15 rfl ?_
           refine .tf 16 rfl ?_
           refine .tf 17 rfl ?_
           refine .tf 18 rfl ?_
           refine .tn 19 rfl .pickF ?_
           refine .tk 20 rfl .pickF ?_
           refine .fin ?_
           refine .next ?_
           refine .condF rfl rfl ?_
           refine .skip (.blockNormal (.next (.region ?_)))
           refine .add ?_
           refine .move (.nil ?_)
           exact .back (i+1) ⟨hil,fun j hj=>if h:j < i then hp.2 j h else (by rw [show j=i from by omega];simp only [offRow,hoi,h8,h9,Bool.false_and,Bool.and_false,Bool.or_false,Bool.false_or,Bool.true_and,Bool.not_false])⟩ (by omega)
          | true =>
           obtain ⟨q,hq⟩:∃ q,b.recs[i - 1]?=some q:=⟨_,List.getElem?_eq_getElem (by omega)⟩
           have hoq:=offAt_of hq
           have hi0:0 < i:=by have h:(0:Int) < (i:Int):=of_decide_eq_true h9;omega
           have hcell:b.rv[(i - 1) * 6+5]?=some (.int .i64 q.off):=by
            have h1:=flat_at Rc.v_len _ _ _ hq
            have h2:(((b.recs.flatMap Rc.v).drop ((i - 1) * 6)).take 6)[5]?=some (.int .i64 q.off):=by rw [h1];rfl
            rw [List.getElem?_take,if_pos (by decide),List.getElem?_drop] at h2
            exact h2
           refine .dr ([pt b1 (.cells #[.int .i64 b.base,.int .i64 b.span,.int .i64 b.prod,.int .i64 b.seq,.slice (some ⟨ab,ao,none⟩) b.recs.length c] 34 (0,0)),pt b4 (.cells r.v.toArray 66 (0,0)),R]) [] 21 mixed .autoJ ?_
           refine .tk 0 rfl (.fa fo66_5) ?_
           refine .tk 1 rfl (.ld sc3) ?_
           refine .tk 2 rfl (.fa fo34_1) ?_
           refine .tk 3 rfl (.ld sc3) ?_
           refine .tk 4 rfl ((Qt.geq).eq (congrArg Value.bool h8)) ?_
           refine .tk 5 rfl .move ?_
           refine .tn 6 rfl .move ?_
           refine .tn 7 rfl ((Qt.gtr).eq (congrArg Value.bool h9)) ?_
           refine .tn 8 rfl .move ?_
           refine .tn 9 rfl (.fa fo66_5) ?_
           refine .tn 10 rfl (.ld sc3) ?_
           refine .tn 11 rfl (.fa fo34_4) ?_
           refine .tn 12 rfl (.ld sc32) ?_
           refine .tn 13 rfl .move ?_
           refine .tn 14 rfl .sub ?_
           refine .tn 15 rfl (.idx so32) ?_
           refine .tn 16 rfl ((Qt.fa fo66_5).eq (congrArg (fun z=>Value.pointer (some ⟨ab,z,none⟩)) (show ao+(((i:Nat):Int) - 1).toNat * 6+5=ao+((i - 1) * 6+5) by omega))) ?_
           refine .tn 17 rfl (Qt.ldR sc3 hR hcell) ?_
           refine .tn 18 rfl .leq ?_
           refine .tn 19 rfl .pickT ?_
           refine .tk 20 rfl .pickF ?_
           refine .fin ?_
           refine .next ?_
           refine .cond rfl (fun h10=>?_) (fun h10=>?_)
           ·refine .sr (.assign (.z ?_))
            refine .ret (.blockRet (.thenRet (.thenRet (.blockRet (.thenRet (?_))))))
            exact .ret1 (h1:=.tmp (t:=2) rfl) ⟨_,⟨congrArg Value.bool (offs_row hil (by simp only [offRow,hoi,h8,h9,hoq,show decide (r.off<=q.off)=true from h10,Bool.true_or,Bool.or_true,Bool.and_true,Bool.true_and,Bool.false_or,Bool.not_true])),rfl⟩,Am.auto⟩
           ·refine .skip (.blockNormal (.next (.region ?_)))
            refine .add ?_
            refine .move (.nil ?_)
            exact .back (i+1) ⟨hil,fun j hj=>if h:j < i then hp.2 j h else (by rw [show j=i from by omega];simp only [offRow,hoi,h8,h9,hoq,show decide (r.off<=q.off)=false from h10,Bool.false_and,Bool.and_false,Bool.or_false,Bool.false_or,Bool.true_and,Bool.not_false])⟩ (by omega)
         | true =>
          refine .dr ([pt b1 (.cells #[.int .i64 b.base,.int .i64 b.span,.int .i64 b.prod,.int .i64 b.seq,.slice (some ⟨ab,ao,none⟩) b.recs.length c] 34 (0,0)),pt b4 (.cells r.v.toArray 66 (0,0)),R]) [] 21 mixed .autoJ ?_
          refine .tk 0 rfl (.fa fo66_5) ?_
          refine .tk 1 rfl (.ld sc3) ?_
          refine .tk 2 rfl (.fa fo34_1) ?_
          refine .tk 3 rfl (.ld sc3) ?_
          refine .tk 4 rfl ((Qt.geq).eq (congrArg Value.bool h8)) ?_
          refine .tk 5 rfl .move ?_
          refine .tf 6 rfl ?_
          refine .tf 7 rfl ?_
          refine .tf 8 rfl ?_
          refine .tu 9 rfl ?_
          refine .tu 10 rfl ?_
          refine .tu 11 rfl ?_
          refine .tu 12 rfl ?_
          refine .tu 13 rfl ?_
          refine .tu 14 rfl ?_
          refine .tu 15 rfl ?_
          refine .tu 16 rfl ?_
          refine .tu 17 rfl ?_
          refine .tu 18 rfl ?_
          refine .tf 19 rfl ?_
          refine .tk 20 rfl .pickT ?_
          refine .fin ?_
          refine .next ?_
          refine .condT rfl rfl ?_
          refine .sr (.assign (.z ?_))
          refine .ret (.blockRet (.thenRet (.thenRet (.blockRet (.thenRet (?_))))))
          exact .ret1 (h1:=.tmp (t:=2) rfl) ⟨_,⟨congrArg Value.bool (offs_row hil (by simp only [offRow,hoi,h8,Bool.true_or,Bool.or_true,Bool.and_true,Bool.true_and,Bool.false_or,Bool.not_true])),rfl⟩,Am.auto⟩
        ·have hge:i=b.recs.length:=by have h:¬ (i:Int) < ((b.recs.length:Nat):Int):=of_decide_eq_false hd;omega
         subst hge
         refine .exit (.thenExit (.thenExit (.blockExit (?_))))
         refine .next (.sr (.assign (.z ?_)))
         refine .ret (?_)
         exact .ret1 (h1:=.tmp (t:=2) rfl) ⟨_,⟨congrArg Value.bool (offs_all hhead hp.2),rfl⟩,Am.auto⟩
def firstT (b:Bt):Int:=((b.recs[0]?).map Rc.time).getD 0
def batHead (b:Bt):Bytes:=put (put (put (put (put (put (List.replicate 48 0) 0 8 true (u64N b.base)) 16 8 true (u64N b.prod)) 24 8 true (u64N b.seq)) 32 4 true (u64N b.span)) 36 4 true (u64N ((b.recs.length:Nat):Int))) 40 8 true (u64N (firstT b))
theorem batHead_len (b:Bt):(batHead b).length=48:=by simp only [batHead,put_length];rfl
def firstBad :List Rc->Int
 | []=>0
 | r :: l=>if ckE r=0 then firstBad l else ckE r
theorem firstBad_ok {l:List Rc} (h:∀ r∈l,ckE r=0):firstBad l=0:=by
 induction l with
 | nil=>rfl
 | cons r l ih=>rw [firstBad,if_pos (h r (List.mem_cons_self ..))];exact ih fun x hx=>h x (List.mem_cons_of_mem _ hx)
theorem firstBad_at :∀ {l:List Rc} {i:Nat} {r:Rc},l[i]?=some r->(∀ j x,j < i->l[j]?=some x->ckE x=0)->ckE r≠0->firstBad l=ckE r:=by
 intro l
 induction l with
 | nil=>intro i r h;cases h
 | cons y l ih =>
  intro i r h hb hr
  cases i with
  | zero =>
   simp only [List.getElem?_cons_zero,Option.some.injEq] at h
   subst h
   rw [firstBad,if_neg hr]
  | succ i =>
   rw [firstBad,if_pos (hb 0 y (Nat.succ_pos _) rfl)]
   exact ih (by simpa using h) (fun j x hj hx=>hb (j+1) x (Nat.succ_lt_succ hj) (by simpa using hx)) hr
def laidE (b:Bt):Int:=if offsOk b then firstBad b.recs else 1
def batRaw (b:Bt):Bytes:=batHead b++b.recs.flatMap fun r=>encB r (firstT b)
def batLen (b:Bt):Bytes:=put (batRaw b) 8 4 true (u64N (((batRaw b).length:Int) - 12))
def batB (b:Bt):Bytes:=put (batLen b) 12 4 true (crcI ((batLen b).drop 16)).toNat
def batE (b:Bt):Int:=if laidE b=0 then (if 6000 < (batB b).length then 2 else 0) else laidE b
theorem batB_len (b:Bt):(batB b).length=(batRaw b).length:=by unfold batB batLen;rw [put_length,put_length]
theorem encs_len {f:Int} {l:List Rc} (h:∀ r∈l,ckE r=0):(l.flatMap fun r=>encB r f).length<=4100 * l.length:=by
 induction l with
 | nil=>simp
 | cons r l ih =>
  rw [List.flatMap_cons,List.length_append,List.length_cons]
  have h1:=encB_len (first:=f) (h r (List.mem_cons_self ..))
  have h2:=ih fun x hx=>h x (List.mem_cons_of_mem _ hx)
  omega
theorem encE_ok {r:Rc} {f:Int} (h:ckE r=0) (hf:0<=f/\f<=1125899906842624):encE r f=0:=by unfold encE;rw [if_pos h,if_neg (by omega)]
theorem encB_pos (r:Rc) (f:Int):1<=(encB r f).length:=by unfold encB flB;simp
theorem i64_wrap0 {a:Nat} (h:a < 2 ^ 63):IntKind.i64.wrap ((a:Nat):Int)=(a:Int):=by
 simp only [IntKind.wrap,IntKind.bits,IntKind.signed]
 simp
 omega
theorem bsI5 (v0 v1 v2 v3 v4:Int):BuildSOk Tryz.prog 40 5 [(0,.int .i64 v0),(1,.int .i64 v1),(2,.int .i64 v2),(3,.int .i64 v3),(4,.int .i64 v4)] 3 #[.int .i64 v0,.int .i64 v1,.int .i64 v2,.int .i64 v3,.int .i64 v4]:=fun w=>by kernel_rfl
theorem batLaid {R:HP} {A:Option Addr} {c:Nat} {b:Bt} (hR:Reads R A b.rv) (hl:b.recs.length<=10000):Spec Tryz.prog 55 #[.agg (b.v (.slice A b.recs.length c)).toArray] [R]
  fun F v M=>(laidE b≠0/\v=.tuple #[.slice none 0 0,.int .i64 (laidE b)]/\M=R :: F) ∨
   (laidE b=0/\∃ g q,(v=.tuple #[.slice (some ⟨g,0,none⟩) (batB b).length q,.int .i64 0]/\(batB b).length<=q/\q<=maxLen)/\M=buf g 5 q (bvs (batB b)) :: R :: F):=by
 refine Spec.intro Tryz.func55 rfl rfl fun B F=>?_
 simp only [Tryz.ntmps55,List.cons_append,List.nil_append,env0,Nat.reduceAdd]
 refine .sr ?_
 refine .box fun b1=>?_
 refine .assign (.assign (.z (.seq (.sr ?_))))
 refine .ldA ?_ agg34
 refine .call (hc:=Tryz.call111) (sp:=batOffsets hR (by omega)) (h:=?_)
 rintro _ _ ⟨rfl,rfl⟩
 refine .not ?_
 refine .z ?_
 refine .cond rfl (fun he=>?_) (fun he=>?_)
 ·have ho:offsOk b=false:=by simpa using he
  have hE:laidE b=1:=by unfold laidE;rw [if_neg (by simp [ho])]
  refine .sr (.assign (.assign (.z ?_)))
  refine .ret (.thenRet (?_))
  exact .ret2 (h1:=.tmp (t:=2) rfl) (h2:=.tmp (t:=3) rfl) ⟨_,.inl ⟨by rw [hE];decide,by rw [hE],rfl⟩,Am.auto⟩
 ·have ho:offsOk b=true:=by simpa using he
  have hE:laidE b=firstBad b.recs:=by unfold laidE;rw [if_pos ho]
  have hpos:0 < b.recs.length:=by
   rcases Nat.eq_zero_or_pos b.recs.length with h | h
   ·unfold offsOk headBad at ho
    rw [h] at ho
    simp at ho
   ·exact h
  obtain ⟨ab,ao,rfl⟩:∃ ab ao,A=some ⟨ab,ao,none⟩:=by
   cases A with
   | none =>
    have h0:b.rv=[]:=hR
    have h1:=flat_length Rc.v_len b.recs
    rw [show b.recs.flatMap Rc.v=[] from h0] at h1
    simp at h1
    omega
   | some a =>
    obtain ⟨x,y,z⟩:=a
    have:z=none:=hR.1
    subst this
    exact ⟨x,y,rfl⟩
  obtain ⟨r0,hr0⟩:∃ r,b.recs[0]?=some r:=⟨_,List.getElem?_eq_getElem hpos⟩
  have hft:firstT b=r0.time:=by unfold firstT;rw [hr0];rfl
  have hcell:b.rv[4]?=some (.int .i64 (firstT b)):=by
   have h1:=flat_at Rc.v_len _ _ _ hr0
   rw [hft]
   have h2:(((b.recs.flatMap Rc.v).drop (0 * 6)).take 6)[4]?=some (.int .i64 r0.time):=by rw [h1];rfl
   rw [List.getElem?_take,if_pos (by decide),List.getElem?_drop] at h2
   exact h2
  refine .skip (.next (.sr ?_))
  refine .fa ?_ fo34_4
  refine .ld ?_ sc32
  refine .idx ?_ so32
  refine .fa ?_ fo66_4
  refine .ldR (i:=4) ?_ sc3 hR hcell
  refine .assign (.z (.seq ?_))
  refine .dr ([pt b1 (.cells #[.int .i64 b.base,.int .i64 b.span,.int .i64 b.prod,.int .i64 b.seq,.slice (some ⟨ab,ao,none⟩) b.recs.length c] 34 (0,0))]) [] 5 mixed .autoJ ?_
  refine .tk 1 rfl (.fa fo34_0) ?_
  refine .tk 2 rfl (.ld sc3) ?_
  refine .on 0 rfl fun hnp=>?_
  refine .mkSN 48 z5 so59 (by decide) (by decide) fun b24=>?_
  refine .to (A':=buf b24 5 48 (bvs (List.replicate 48 0))) (fun h hh=>by rw [show bvs (List.replicate 48 0)=List.replicate 48 (.int .u8 0) by simp [bvs,bv]];exact hh) ?_
  refine .nil (.wa hnp ?_)
  refine .on 3 rfl fun hnp=>?_
  refine .call (hc:=Tryz.call112) (sp:=batPut (xs:=List.replicate 48 0) (v:=b.base) Reads.buf rfl (by decide) (by decide) (by decide) (by decide)) (h:=?_)
  rintro _ _ ⟨g0,q0,⟨rfl,h0a,h0b⟩,rfl⟩
  refine .nil (.wa hnp ?_)
  refine .tk 4 rfl .assign ?_
  refine .fin ?_
  refine .next (.seq (.sr ?_))
  refine .fa ?_ fo34_2
  refine .ld ?_ sc3
  refine .fa ?_ fo34_3
  refine .ld ?_ sc3
  refine .fa ?_ fo34_1
  refine .ld ?_ sc3
  refine .fa ?_ fo34_4
  refine .ld ?_ sc32
  refine .lenS ?_ sl32
  refine .move ?_
  refine .buildS (fun b38=>?_) (bsI5 _ _ _ _ _)
  refine .lenS ?_ sl40
  refine .move (.z (.block ?_))
  refine .loopN 6 (RC.succ ?_)
  refine .sr ?_
  refine .lss ?_
  refine .z (.seq ?_)
  refine .condT rfl rfl ?_
  refine .skip (.next (.seq (.block (.sr (.move ?_)))))
  refine .idx1 ?_ so40
  refine .ld ?_ sc3
  refine .assign (.assign (.x ?_))
  refine .call (hc:=Tryz.call72) (sp:=batNumbers) (h:=?_)
  rintro _ _ ⟨rfl,rfl⟩
  refine .move ?_
  refine .ixF ?_ ixNum0
  refine .alloc z122 fun b8_0=>?_
  refine .stV ?_ agg122
  refine .y (.move ?_)
  refine .fa ?_ fo122_0
  refine .ld ?_ sc3
  refine .fa ?_ fo122_1
  refine .ld ?_ sc3
  refine .move ?_
  refine .call (hc:=Tryz.call112) (sp:=batPut (xs:=put (List.replicate 48 0) 0 8 true (u64N (b.base))) (v:=b.prod) Reads.buf (by simp only [put_length,List.length_replicate]) (by decide) (by decide) (by decide) (by decide)) (h:=?_)
  rintro _ _ ⟨g1,q1,⟨rfl,h1a,h1b⟩,rfl⟩
  refine .assign (.nil (.blockNormal (.next (.region ?_))))
  refine .add ?_
  refine .move (.nil ?_)
  refine .again (RC.succ ?_)
  refine .sr ?_
  refine .lss ?_
  refine .z (.seq ?_)
  refine .condT rfl rfl ?_
  refine .skip (.next (.seq (.block (.sr (.move ?_)))))
  refine .idx1 ?_ so40
  refine .ld ?_ sc3
  refine .assign (.assign (.x ?_))
  refine .call (hc:=Tryz.call72) (sp:=batNumbers) (h:=?_)
  rintro _ _ ⟨rfl,rfl⟩
  refine .move ?_
  refine .ixF ?_ ixNum1
  refine .alloc z122 fun b8_1=>?_
  refine .stV ?_ agg122
  refine .y (.move ?_)
  refine .fa ?_ fo122_0
  refine .ld ?_ sc3
  refine .fa ?_ fo122_1
  refine .ld ?_ sc3
  refine .move ?_
  refine .call (hc:=Tryz.call112) (sp:=batPut (xs:=put (put (List.replicate 48 0) 0 8 true (u64N (b.base))) 16 8 true (u64N (b.prod))) (v:=b.seq) Reads.buf (by simp only [put_length,List.length_replicate]) (by decide) (by decide) (by decide) (by decide)) (h:=?_)
  rintro _ _ ⟨g2,q2,⟨rfl,h2a,h2b⟩,rfl⟩
  refine .assign (.nil (.blockNormal (.next (.region ?_))))
  refine .add ?_
  refine .move (.nil ?_)
  refine .again (RC.succ ?_)
  refine .sr ?_
  refine .lss ?_
  refine .z (.seq ?_)
  refine .condT rfl rfl ?_
  refine .skip (.next (.seq (.block (.sr (.move ?_)))))
  refine .idx1 ?_ so40
  refine .ld ?_ sc3
  refine .assign (.assign (.x ?_))
  refine .call (hc:=Tryz.call72) (sp:=batNumbers) (h:=?_)
  rintro _ _ ⟨rfl,rfl⟩
  refine .move ?_
  refine .ixF ?_ ixNum2
  refine .alloc z122 fun b8_2=>?_
  refine .stV ?_ agg122
  refine .y (.move ?_)
  refine .fa ?_ fo122_0
  refine .ld ?_ sc3
  refine .fa ?_ fo122_1
  refine .ld ?_ sc3
  refine .move ?_
  refine .call (hc:=Tryz.call112) (sp:=batPut (xs:=put (put (put (List.replicate 48 0) 0 8 true (u64N (b.base))) 16 8 true (u64N (b.prod))) 24 8 true (u64N (b.seq))) (v:=b.span) Reads.buf (by simp only [put_length,List.length_replicate]) (by decide) (by decide) (by decide) (by decide)) (h:=?_)
  rintro _ _ ⟨g3,q3,⟨rfl,h3a,h3b⟩,rfl⟩
  refine .assign (.nil (.blockNormal (.next (.region ?_))))
  refine .add ?_
  refine .move (.nil ?_)
  refine .again (RC.succ ?_)
  refine .sr ?_
  refine .lss ?_
  refine .z (.seq ?_)
  refine .condT rfl rfl ?_
  refine .skip (.next (.seq (.block (.sr (.move ?_)))))
  refine .idx1 ?_ so40
  refine .ld ?_ sc3
  refine .assign (.assign (.x ?_))
  refine .call (hc:=Tryz.call72) (sp:=batNumbers) (h:=?_)
  rintro _ _ ⟨rfl,rfl⟩
  refine .move ?_
  refine .ixF ?_ ixNum3
  refine .alloc z122 fun b8_3=>?_
  refine .stV ?_ agg122
  refine .y (.move ?_)
  refine .fa ?_ fo122_0
  refine .ld ?_ sc3
  refine .fa ?_ fo122_1
  refine .ld ?_ sc3
  refine .move ?_
  refine .call (hc:=Tryz.call112) (sp:=batPut (xs:=put (put (put (put (List.replicate 48 0) 0 8 true (u64N (b.base))) 16 8 true (u64N (b.prod))) 24 8 true (u64N (b.seq))) 32 4 true (u64N (b.span))) (v:=((b.recs.length:Nat):Int)) Reads.buf (by simp only [put_length,List.length_replicate]) (by decide) (by decide) (by decide) (by decide)) (h:=?_)
  rintro _ _ ⟨g4,q4,⟨rfl,h4a,h4b⟩,rfl⟩
  refine .assign (.nil (.blockNormal (.next (.region ?_))))
  refine .add ?_
  refine .move (.nil ?_)
  refine .again (RC.succ ?_)
  refine .sr ?_
  refine .lss ?_
  refine .z (.seq ?_)
  refine .condT rfl rfl ?_
  refine .skip (.next (.seq (.block (.sr (.move ?_)))))
  refine .idx1 ?_ so40
  refine .ld ?_ sc3
  refine .assign (.assign (.x ?_))
  refine .call (hc:=Tryz.call72) (sp:=batNumbers) (h:=?_)
  rintro _ _ ⟨rfl,rfl⟩
  refine .move ?_
  refine .ixF ?_ ixNum4
  refine .alloc z122 fun b8_4=>?_
  refine .stV ?_ agg122
  refine .y (.move ?_)
  refine .fa ?_ fo122_0
  refine .ld ?_ sc3
  refine .fa ?_ fo122_1
  refine .ld ?_ sc3
  refine .move ?_
  refine .call (hc:=Tryz.call112) (sp:=batPut (xs:=put (put (put (put (put (List.replicate 48 0) 0 8 true (u64N (b.base))) 16 8 true (u64N (b.prod))) 24 8 true (u64N (b.seq))) 32 4 true (u64N (b.span))) 36 4 true (u64N (((b.recs.length:Nat):Int)))) (v:=firstT b) Reads.buf (by simp only [put_length,List.length_replicate]) (by decide) (by decide) (by decide) (by decide)) (h:=?_)
  rintro _ _ ⟨g5,q5,⟨rfl,h5a,h5b⟩,rfl⟩
  refine .assign (.nil (.blockNormal (.next (.region ?_))))
  refine .add ?_
  refine .move (.nil ?_)
  refine .again (RC.succ ?_)
  refine .sr ?_
  refine .lss ?_
  refine .z (.seq ?_)
  refine .condF rfl rfl ?_
  refine .exit (.thenExit (.thenExit (.blockExit (?_))))
  refine .next (.seq (.sr ?_))
  refine .fa ?_ fo34_4
  refine .ld ?_ sc32
  refine .lenS ?_ sl32
  refine .move (.z (.block ?_))
  refine .to (A:=buf g5 5 q5 (bvs (put (put (put (put (put (put (List.replicate 48 0) 0 8 true (u64N (b.base))) 16 8 true (u64N (b.prod))) 24 8 true (u64N (b.seq))) 32 4 true (u64N (b.span))) 36 4 true (u64N (((b.recs.length:Nat):Int)))) 40 8 true (u64N (firstT b))))) (A':=buf g5 5 q5 (bvs (batHead b))) (fun h hh=>hh) ?_
  refine .loopA (σ:=Nat) (fun i=>[(1,.pointer (some ⟨b1,0,none⟩)),(4,.int .i64 (firstT b)),(5,.slice (some ⟨g5,0,none⟩) 48 q5),(57,.slice (some ⟨ab,ao,none⟩) b.recs.length c),(58,.int .i64 ((b.recs.length:Nat):Int)),(59,.int .i64 ((i:Nat):Int))]) (fun _=>[pt b1 (.cells #[.int .i64 b.base,.int .i64 b.span,.int .i64 b.prod,.int .i64 b.seq,.slice (some ⟨ab,ao,none⟩) b.recs.length c] 34 (0,0)),buf g5 5 q5 (bvs (batHead b)),R]++F) (fun i=>i<=b.recs.length/\∀ j x,j < i->b.recs[j]?=some x->ckE x=0) (fun i=>b.recs.length - i) 0 ⟨Nat.zero_le _,fun j x hj=>absurd hj (Nat.not_lt_zero _)⟩ ?_
  rintro i hp
  refine .sr ?_
  refine .lss ?_
  refine .z (.seq ?_)
  refine .cond rfl (fun hd=>?_) (fun hd=>?_)
  ·have hil:i < b.recs.length:=by have h:(i:Int) < ((b.recs.length:Nat):Int):=of_decide_eq_true hd;omega
   obtain ⟨r,hr⟩:∃ r,b.recs[i]?=some r:=⟨_,List.getElem?_eq_getElem hil⟩
   refine .skip (.next (.seq (.block (.sr ?_))))
   refine .idx ?_ so32
   refine .ldAR (i:=i * 6) (us:=r.v) ?_ agg66 hR (flat_at Rc.v_len _ _ _ hr) (flat_fit Rc.v_len hil)
   refine .alloc z66 fun b10_5=>?_
   refine .stV ?_ agg66
   refine .x ?_
   refine .ldA ?_ agg66
   refine .call (hc:=Tryz.call113) (sp:=recCheck (r:=r)) (h:=?_)
   rintro _ _ ⟨rfl,rfl⟩
   refine .assign (.x (.move ?_))
   refine .nei ?_
   refine .z ?_
   refine .cond rfl (fun hq=>?_) (fun hq=>?_)
   ·have hne:ckE r≠0:=by simpa using hq
    have hfb:=firstBad_at hr (fun j x hj hx=>hp.2 j x hj hx) hne
    refine .sr (.move (.assign (.assign (.z ?_))))
    refine .ret (.blockRet (.thenRet (.thenRet (.blockRet (.thenRet (?_))))))
    exact .ret2 (h1:=.tmp (t:=2) rfl) (h2:=.tmp (t:=3) rfl) ⟨_,.inl ⟨by rw [hE,hfb];exact hne,by rw [hE,hfb],rfl⟩,Am.auto⟩
   ·have h0:ckE r=0:=by simpa using hq
    refine .skip (.blockNormal (.next (.region ?_)))
    refine .add ?_
    refine .move (.nil ?_)
    exact .back (i+1) ⟨hil,fun j x hj hx=>if h:j < i then hp.2 j x h hx else (by rw [show j=i from by omega,hr] at hx;injection hx with hx;rw [<- hx];exact h0)⟩ (by omega)
  ·have hge:i=b.recs.length:=by have h:¬ (i:Int) < ((b.recs.length:Nat):Int):=of_decide_eq_false hd;omega
   subst hge
   have hall:∀ x∈b.recs,ckE x=0:=fun x hx=>by
    obtain ⟨j,hj,hjx⟩:=List.getElem_of_mem hx
    exact hp.2 j x hj (by rw [List.getElem?_eq_getElem hj,hjx])
   have hE0:laidE b=0:=by rw [hE];exact firstBad_ok hall
   have hfr:0<=firstT b/\firstT b<=1125899906842624:=by
    have:=(ckE_ok (hall r0 (List.mem_of_getElem? hr0))).2.1
    rw [hft];exact this
   have hrl:(batRaw b).length<=48+4100 * b.recs.length:=by
    unfold batRaw
    rw [List.length_append,batHead_len]
    have:=encs_len (f:=firstT b) hall
    omega
   have h00:(batHead b++(b.recs.take 0).flatMap fun r=>encB r (firstT b))=batHead b:=by rw [List.take_zero];exact List.append_nil _
   refine .exit (.thenExit (.thenExit (.blockExit (?_))))
   refine .next (.seq (.sr ?_))
   refine .fa ?_ fo34_4
   refine .ld ?_ sc32
   refine .lenS ?_ sl32
   refine .move ?_
   refine .to (A:=buf g5 5 q5 (bvs (batHead b))) (A':=buf g5 5 q5 (bvs (batHead b++(b.recs.take 0).flatMap fun r=>encB r (firstT b)))) (fun h hh=>by rw [h00];exact hh) ?_
   refine .cast (d:=5) (u:=.slice (some ⟨g5,0,none⟩) (batHead b++(b.recs.take 0).flatMap fun r=>encB r (firstT b)).length q5) rfl (by rw [h00,batHead_len]) ?_
   refine .z (.block ?_)
   refine .loopA (σ:=Nat×Nat×Nat) (fun s=>[(1,.pointer (some ⟨b1,0,none⟩)),(4,.int .i64 (firstT b)),(5,.slice (some ⟨s.2.1,0,none⟩) (batHead b++(b.recs.take s.1).flatMap fun r=>encB r (firstT b)).length s.2.2),(70,.slice (some ⟨ab,ao,none⟩) b.recs.length c),(71,.int .i64 ((b.recs.length:Nat):Int)),(72,.int .i64 ((s.1:Nat):Int))]) (fun s=>[pt b1 (.cells #[.int .i64 b.base,.int .i64 b.span,.int .i64 b.prod,.int .i64 b.seq,.slice (some ⟨ab,ao,none⟩) b.recs.length c] 34 (0,0)),buf s.2.1 5 s.2.2 (bvs (batHead b++(b.recs.take s.1).flatMap fun r=>encB r (firstT b))),R]++F) (fun s=>s.1<=b.recs.length/\(batHead b++(b.recs.take s.1).flatMap fun r=>encB r (firstT b)).length<=s.2.2/\s.2.2<=maxLen) (fun s=>b.recs.length - s.1) (0,g5,q5) ⟨Nat.zero_le _,by show (batHead b++[]).length<=q5;rw [List.append_nil,batHead_len];exact h5a,h5b⟩ ?_
   rintro s hs
   obtain ⟨i,g,q⟩:=s
   obtain ⟨hi,hq1,hq2⟩:=hs
   simp only at hi hq1 hq2
   refine .sr ?_
   refine .lss ?_
   refine .z (.seq ?_)
   refine .cond rfl (fun hd2=>?_) (fun hd2=>?_)
   ·have hil:i < b.recs.length:=by have h:(i:Int) < ((b.recs.length:Nat):Int):=of_decide_eq_true hd2;omega
    obtain ⟨r,hr⟩:∃ r,b.recs[i]?=some r:=⟨_,List.getElem?_eq_getElem hil⟩
    have hck:ckE r=0:=hall r (List.mem_of_getElem? hr)
    have hel:=encB_len (first:=firstT b) hck
    have hstep:batHead b++(b.recs.take (i+1)).flatMap (fun r=>encB r (firstT b))=(batHead b++(b.recs.take i).flatMap fun r=>encB r (firstT b))++encB r (firstT b):=by
     rw [List.take_add_one,hr]
     simp
    have hol:(batHead b++(b.recs.take i).flatMap fun r=>encB r (firstT b)).length<=48+4100 * b.recs.length:=by
     rw [List.length_append,batHead_len]
     have:=encs_len (f:=firstT b) (l:=b.recs.take i) fun x hx=>hall x (List.mem_of_mem_take hx)
     rw [List.length_take] at this
     omega
    refine .skip (.next (.seq (.block (.sr ?_))))
    refine .idx ?_ so32
    refine .ldAR (i:=i * 6) (us:=r.v) ?_ agg66 hR (flat_at Rc.v_len _ _ _ hr) (flat_fit Rc.v_len hil)
    refine .alloc z66 fun b13_5=>?_
    refine .stV ?_ agg66
    refine .x ?_
    refine .ldA ?_ agg66
    refine .move ?_
    refine .call (hc:=Tryz.call114) (sp:=recEncode (r:=r) (first:=firstT b)) (h:=?_)
    rintro _ _ (⟨h0,_,_⟩ | ⟨_,_,u,rfl,rfl⟩)
    ·exact absurd (encE_ok hck hfr) h0
    refine .rowOpen (v:=u) (hx:=fun h=>by have:=congrArg List.length h;rw [bvs_length] at this;have:=encB_pos r (firstT b);simp only [List.length_nil] at *;omega) fun A4 c4 hv4 hR4 h41 h42=>?_
    subst hv4
    refine .move ?_
    refine .extract ?_
    refine .extract ?_
    refine .assign (.assign (.z (.seq (.sr (.move ?_)))))
    refine .nei ?_
    refine .z ?_
    refine .condF rfl rfl ?_
    refine .skip (.next (.region (.move (.move ?_))))
    refine .to (A:=buf g 5 q (bvs (batHead b++(b.recs.take i).flatMap fun r=>encB r (firstT b)))) (rowR_of_buf hq2) ?_
    rw [bvs_length]
    refine .appendAny (m:=(encB r (firstT b)).length) (news:=bvs (encB r (firstT b))) (R:=rowR 5 1 (.slice (some A4) (encB r (firstT b)).length c4) (encB r (firstT b)).length (bvs (encB r (firstT b)))) so59 (by decide) (by repeat (first | exact .here | apply Rem.there | apply Repl.there | apply Mem.there)) hR4 (by repeat (first | exact .here | apply Rem.there | apply Repl.there | apply Mem.there)) (by rw [bvs_length,Nat.mul_one]) (bvs_single _) (by unfold maxLen;omega) (by omega) ⟨_,z5,rfl⟩ (fun v' hv'=>?_)
    refine .toE (A:=rowR 5 1 v' ((batHead b++(b.recs.take i).flatMap fun r=>encB r (firstT b)).length+(encB r (firstT b)).length) (bvs (batHead b++(b.recs.take i).flatMap fun r=>encB r (firstT b))++bvs (encB r (firstT b)))) (buf_of_rowR (fun h=>by have:=(hv'.1 h).1;cases this)) ?_
    rintro ⟨g2,q2⟩ ⟨rfl,h2a,h2b,_⟩
    rw [<- bvs_append,<-List.length_append,<-hstep]
    refine .assign (.nil (.blockNormal (.next (.region ?_))))
    refine .add ?_
    refine .move (.nil ?_)
    exact .back (i+1,g2,q2) ⟨hil,by rw [hstep,List.length_append];exact h2a,h2b⟩ (show b.recs.length - (i+1) < b.recs.length - i by omega)
   ·have hge:i=b.recs.length:=by have h:¬ (i:Int) < ((b.recs.length:Nat):Int):=of_decide_eq_false hd2;omega
    subst hge
    have hraw:(batHead b++(b.recs.take b.recs.length).flatMap fun r=>encB r (firstT b))=batRaw b:=by rw [List.take_length];rfl
    rw [hraw] at hq1
    have hge48:48<=(batRaw b).length:=by unfold batRaw;rw [List.length_append,batHead_len];omega
    have hll:(batLen b).length=(batRaw b).length:=by unfold batLen;rw [put_length]
    have hcr:=crcI_range ((batLen b).drop 16)
    rw [hraw]
    refine .exit (.thenExit (.thenExit (.blockExit (?_))))
    refine .next (.sr (.move (.move ?_)))
    refine .lenS ?_ sl59
    refine .sub ?_
    refine .call (hc:=Tryz.call112) (sp:=batPut (xs:=batRaw b) (v:=((batRaw b).length:Int) - 12) Reads.buf rfl (by omega) (by decide) (by decide) (by omega)) (h:=?_)
    rintro _ _ ⟨g6,q6,⟨rfl,h6a,h6b⟩,rfl⟩
    refine .assign (.x ?_)
    refine .to (A:=buf g6 5 q6 (bvs (put (batRaw b) 8 4 true (u64N (((batRaw b).length:Int) - 12))))) (A':=buf g6 5 q6 (bvs (batLen b))) (fun h hh=>hh) ?_
    refine .move (.move ?_)
    refine .slcL ?_ so59
    refine .cast (d:=96) (u:=.slice (some ⟨g6,0+16,none⟩) ((batRaw b).length - 16) (q6 - 16)) rfl (by rw [if_neg (by show ¬ q6=16;omega)];rfl) ?_
    refine .call (hc:=Tryz.call83) (sp:=crcSum (R:=buf g6 5 q6 (bvs (batLen b))) (xs:=(batLen b).drop 16) (by rw [bvs_drop];exact Reads.buf.drop 16) (by rw [List.length_drop,hll]) (by omega)) (h:=?_)
    rintro _ _ ⟨rfl,rfl⟩
    refine .cvt ?_ un149 un3
    refine .cast (d:=98) (u:=.int .i64 (((crcI ((batLen b).drop 16)).toNat:Nat):Int)) rfl (congrArg (Value.int .i64) (by rw [show crcI ((batLen b).drop 16)=(((crcI ((batLen b).drop 16)).toNat:Nat):Int) by omega,i64_wrap0 (by omega)];rfl)) ?_
    refine .call (hc:=Tryz.call112) (sp:=batPut (xs:=batLen b) (v:=(((crcI ((batLen b).drop 16)).toNat:Nat):Int)) Reads.buf hll (by omega) (by decide) (by decide) (by omega)) (h:=?_)
    rintro _ _ ⟨g7,q7,⟨rfl,h7a,h7b⟩,rfl⟩
    refine .assign (.assign (.z ?_))
    refine .ret (?_)
    rw [u64N_nat (by omega)]
    have hBl:(batB b).length=(batRaw b).length:=batB_len b
    exact .ret2 (h1:=.tmp (t:=2) rfl) (h2:=.tmp (t:=3) rfl) ⟨_,.inr ⟨hE0,g7,q7,⟨by rw [hBl],by rw [hBl];exact h7a,h7b⟩,rfl⟩,Am.auto⟩
theorem batEncode {R:HP} {A:Option Addr} {c:Nat} {b:Bt} (hR:Reads R A b.rv) (hl:b.recs.length<=10000):Spec Tryz.prog 28 #[.agg (b.v (.slice A b.recs.length c)).toArray] [R]
  fun F v M=>(batE b≠0/\v=.tuple #[.slice none 0 0,.int .i64 (batE b)]/\M=R :: F) ∨
   (batE b=0/\∃ g q,(v=.tuple #[.slice (some ⟨g,0,none⟩) (batB b).length q,.int .i64 0]/\(batB b).length<=q/\q<=maxLen)/\M=buf g 5 q (bvs (batB b)) :: R :: F):=by
 refine Spec.intro Tryz.func28 rfl rfl fun B F=>?_
 simp only [Tryz.ntmps28,List.cons_append,List.nil_append,env0,Nat.reduceAdd]
 refine .sr ?_
 refine .box fun b1=>?_
 refine .assign (.assign (.x ?_))
 refine .ldA ?_ agg34
 refine .call (hc:=Tryz.call55) (sp:=batLaid hR hl) (h:=?_)
 rintro _ _ (⟨hE,rfl,rfl⟩ | ⟨hE,g,q,⟨rfl,h1,h2⟩,rfl⟩)
 ·have hB:batE b=laidE b:=by unfold batE;rw [if_neg hE]
  refine .move ?_
  refine .extract ?_
  refine .extract ?_
  refine .assign (.assign (.z (.seq (.sr (.move ?_)))))
  refine .nei ?_
  refine .z ?_
  refine .condT rfl (congrArg Value.bool (by simp [hE])) ?_
  refine .sr (.move (.assign (.assign (.z ?_))))
  refine .ret (.thenRet (?_))
  exact .ret2 (h1:=.tmp (t:=2) rfl) (h2:=.tmp (t:=3) rfl) ⟨_,.inl ⟨by rw [hB];exact hE,by rw [hB];rfl,rfl⟩,Am.auto⟩
 ·refine .move ?_
  refine .extract ?_
  refine .extract ?_
  refine .assign (.assign (.z (.seq (.sr (.move ?_)))))
  refine .nei ?_
  refine .z ?_
  refine .condF rfl rfl ?_
  refine .skip (.next (.seq (.sr (.move ?_))))
  refine .lenS ?_ sl59
  refine .gtr ?_
  refine .z ?_
  refine .cond rfl (fun hb=>?_) (fun hb=>?_)
  ·have hlt:6000 < (batB b).length:=by have h:(6000:Int) < (((batB b).length:Nat):Int):=of_decide_eq_true hb;omega
   have hB:batE b=2:=by unfold batE;rw [if_pos hE,if_pos hlt]
   refine .sr (.assign (.assign (.z ?_)))
   refine .ret (.thenRet (?_))
   exact .ret2 (h1:=.tmp (t:=2) rfl) (h2:=.tmp (t:=3) rfl) ⟨_,.inl ⟨by rw [hB];decide,by rw [hB],rfl⟩,Am.auto⟩
  ·have hlt:¬ 6000 < (batB b).length:=by have h:¬ (6000:Int) < (((batB b).length:Nat):Int):=of_decide_eq_false hb;omega
   have hB:batE b=0:=by unfold batE;rw [if_pos hE,if_neg hlt]
   refine .skip (.next (.sr (.move (.assign (.assign (.z ?_))))))
   refine .ret (?_)
   exact .ret2 (h1:=.tmp (t:=2) rfl) (h2:=.tmp (t:=3) rfl) ⟨_,.inr ⟨hB,g,q,⟨rfl,h1,h2⟩,rfl⟩,Am.auto⟩
theorem z34 :zeroOf Tryz.prog 34=some (#[.int .i64 0,.int .i64 0,.int .i64 0,.int .i64 0,.slice none 0 0]):=by kernel_rfl
theorem and127 {n:Nat} (h:n < 18446744073709551616):band .u64 (n:Int) 127=((n % 128:Nat):Int):=by
 unfold band
 have h1:(BitVec.ofInt 64 (n:Int) &&& BitVec.ofInt 64 127).toNat=n % 128:=by
  rw [BitVec.toNat_and]
  have a:(BitVec.ofInt 64 (n:Int)).toNat=n:=by simp [BitVec.toNat_ofInt];omega
  have b:(BitVec.ofInt 64 127).toNat=2 ^ 7 - 1:=by decide
  rw [a,b,Nat.and_two_pow_sub_one_eq_mod]
 show IntKind.u64.wrap _=_
 rw [show (BitVec.ofInt IntKind.u64.bits (n:Int) &&& BitVec.ofInt IntKind.u64.bits 127).toNat=n % 128 from h1,u64_wrap0 (by omega)]
theorem or128_fin :∀ m:Fin 128,bor .u64 ((m.val:Nat):Int) 128=((m.val+128:Nat):Int):=by decide +kernel
theorem refByte {n:Nat} (h:n < 18446744073709551616):IntKind.u8.wrap (bor .u64 (band .u64 (n:Int) 127) 128)=(((UInt8.ofNat (n % 128+128)).toNat:Nat):Int):=by
 rw [and127 h]
 have:=or128_fin ⟨n % 128,Nat.mod_lt _ (by decide)⟩
 simp only [] at this
 rw [this,u8_wrapN]
 simp
theorem dec99 (x:Int):decide (99 < x)=decide (100<=x):=by by_cases h:99 < x<;>simp [h]<;>omega
theorem refVarint {n:Nat} (hn:n < 18446744073709551616):Spec Tryz.prog 184 #[.int .u64 (n:Int)] []
  fun F v M=>v≠.slice none 0 0/\M=rowR 5 1 v (vint n).length (bvs (vint n)) :: F:=by
 refine Spec.intro Tryz.func184 rfl rfl fun B F=>?_
 simp only [Tryz.ntmps184,List.cons_append,List.nil_append,env0,Nat.reduceAdd]
 have hlen:=vint_len10 hn
 refine .emp (A:=rowR 5 1 (.slice none 0 0) 0 (bvs [])) (rowR.nil _) ?_
 refine .sr (.assign (.x (.assign (.z (.seq (.block ?_))))))
 refine .loopA (σ:=Nat×Bytes×Value) (fun s=>[(0,.int .u64 (s.1:Int)),(3,s.2.2)]) (fun s=>rowR 5 1 s.2.2 s.2.1.length (bvs s.2.1) :: F) (fun s=>s.1 < 18446744073709551616/\s.2.1++vint s.1=vint n) (fun s=>s.1) (n,[],.slice none 0 0) ⟨hn,rfl⟩ ?_
 rintro s hs
 obtain ⟨m,bs,u⟩:=s
 obtain ⟨hm,hb⟩:=hs
 simp only at hm hb
 have hle:bs.length+(vint m).length<=10:=by rw [<- List.length_append,hb];exact hlen
 have hpos:=vint_pos m
 refine .seq (.sr (.move ?_))
 refine .geq ?_
 refine .z ?_
 refine .cond rfl (fun hd=>?_) (fun hd=>?_)
 ·have hbig:127 < m:=by have h:(128:Int)<=(m:Int):=of_decide_eq_true hd;omega
  refine .skip (.next (.block (.sr (.move (.move ?_)))))
  refine .and ?_
  refine .or ?_
  refine .cvt ?_ un148 un5
  refine .cast (d:=10) rfl (congrArg (Value.int .u8) (refByte hm)) ?_
  refine .buildS (fun b11=>?_) (bsb1 _)
  refine .append (m:=1) (news:=bvs [UInt8.ofNat (m % 128+128)]) so59 (by decide) (by repeat (first | exact .here | apply Rem.there | apply Repl.there | apply Mem.there)) (Reads.pt (cs:=(bvs [UInt8.ofNat (m % 128+128)]).toArray)) (by repeat (first | exact .here | apply Rem.there | apply Repl.there | apply Mem.there)) rfl (bvs_single _) (by show bs.length+1<=maxLen;unfold maxLen;omega) (by show (bs.length+1) * 1<=140737488355328;omega) ⟨_,z5,rfl⟩ (fun v' hv'=>?_)
  refine .assign (.y (.move ?_))
  refine .shr ?_
  refine .cast (d:=14) rfl (congrArg (Value.int .u64) (shr7 m)) ?_
  refine .assign (.nil (.blockNormal ?_))
  exact .back (m / 128,bs++[UInt8.ofNat (m % 128+128)],v') ⟨by show m / 128 < _;omega,by show (bs++[_])++vint (m / 128)=_;rw [List.append_assoc,<-hb,vint_big hbig];rfl⟩ (show m / 128 < m by omega) (hI:=by rw [show bs.length+1=(bs++[UInt8.ofNat (m % 128+128)]).length by simp,<-bvs_append];exact Am.auto)
 ·have hlow:¬ 127 < m:=by have h:¬ (128:Int)<=(m:Int):=of_decide_eq_false hd;omega
  refine .exit (.thenExit (.thenExit (.blockExit (?_))))
  refine .next (.sr (.move (.move ?_)))
  refine .cvt ?_ un148 un5
  refine .cast (d:=17) rfl (congrArg (Value.int .u8) (u8low hlow)) ?_
  refine .buildS (fun b18=>?_) (bsb1 _)
  refine .append (m:=1) (news:=bvs [UInt8.ofNat m]) so59 (by decide) (by repeat (first | exact .here | apply Rem.there | apply Repl.there | apply Mem.there)) (Reads.pt (cs:=(bvs [UInt8.ofNat m]).toArray)) (by repeat (first | exact .here | apply Rem.there | apply Repl.there | apply Mem.there)) rfl (bvs_single _) (by show bs.length+1<=maxLen;unfold maxLen;omega) (by show (bs.length+1) * 1<=140737488355328;omega) ⟨_,z5,rfl⟩ (fun v' hv'=>?_)
  refine .assign (.z ?_)
  refine .ret (?_)
  have hfin:bvs bs++bvs [UInt8.ofNat m]=bvs (vint n):=by rw [<- bvs_append,<-hb,vint_low hlow]
  have hk:bs.length+1=(vint n).length:=by rw [<- hb,vint_low hlow,List.length_append];rfl
  refine .to (A:=rowR 5 1 v' (bs.length+1) (bvs bs++bvs [UInt8.ofNat m])) (A':=rowR 5 1 v' (vint n).length (bvs (vint n))) (fun h hh=>by rw [<- hk,<-hfin];exact hh) ?_
  exact .ret1 (h1:=.tmp (t:=2) rfl) ⟨_,⟨fun h=>(by have:=(hv'.1 h).2;omega),rfl⟩,Am.auto⟩
theorem refZig {v:Int}:Spec Tryz.prog 185 #[.int .i64 v] [] fun F u M=>u=.int .u64 ((zigN v:Nat):Int)/\M=F:=by
 refine Spec.intro Tryz.func185 rfl rfl fun B F=>?_
 simp only [Tryz.ntmps185,List.cons_append,List.nil_append,env0,Nat.reduceAdd]
 refine .sr (.assign (.x (.move ?_)))
 refine .cvt ?_ un3 un148
 refine .shl ?_
 refine .move ?_
 refine .shr ?_
 refine .cvt ?_ un3 un148
 refine .xor ?_
 refine .assign (.z ?_)
 refine .ret (?_)
 exact .ret1 (h1:=.tmp (t:=2) rfl) ⟨_,⟨congrArg (Value.int .u64) (zigN_eq v),rfl⟩,Am.auto⟩
theorem refOdd {r:Rc}:Spec Tryz.prog 165 #[.agg r.v.toArray] [] fun F v M=>v=.bool r.odd/\M=F:=by
 refine Spec.intro Tryz.func165 rfl rfl fun B F=>?_
 simp only [Tryz.ntmps165,List.cons_append,List.nil_append,env0,Nat.reduceAdd]
 obtain ⟨hk,key,hv,val,time,off⟩:=r
 refine .sr ?_
 refine .box fun b1=>?_
 refine .assign (.x ?_)
 refine .fa ?_ fo66_0
 refine .ld ?_ sc4
 refine .not ?_
 refine .move ?_
 refine .split (t:=6) rfl (fun ha=>?_) (fun ha=>?_)
 ·refine .gT ?_
  refine .fa ?_ fo66_1
  refine .gT ?_
  refine .ld ?_ sc9
  refine .gT ?_
  refine .neS _ _ ?_
  refine .pickT ?_
  refine .move ?_
  refine .split (t:=11) rfl (fun hb=>?_) (fun hb=>?_)
  ·refine .gF ?_
   refine .gF ?_
   refine .gF ?_
   refine .gF ?_
   refine .gU ?_
   refine .gU ?_
   refine .gU ?_
   refine .gF ?_
   refine .pickT ?_
   refine .move ?_
   refine .gF ?_
   refine .gF ?_
   refine .gF ?_
   refine .pickT ?_
   refine .move ?_
   refine .gF ?_
   refine .gF ?_
   refine .gF ?_
   refine .pickT ?_
   refine .move ?_
   refine .gF ?_
   refine .gF ?_
   refine .gF ?_
   refine .pickT ?_
   refine .move ?_
   refine .gF ?_
   refine .gF ?_
   refine .gF ?_
   refine .pickT ?_
   refine .assign (.z ?_)
   refine .ret (?_)
   exact .ret1 (h1:=.tmp (t:=2) rfl) ⟨_,⟨congrArg Value.bool (by simp only [Rc.odd,show (!hk)=true from ha,show (!decide (key=[]))=true from hb,Bool.true_and,Bool.and_true,Bool.false_and,Bool.and_false,Bool.true_or,Bool.or_true,Bool.false_or,Bool.or_false]),rfl⟩,Am.auto⟩
  ·refine .gT ?_
   refine .fa ?_ fo66_2
   refine .gT ?_
   refine .ld ?_ sc4
   refine .gT ?_
   refine .not ?_
   refine .gT ?_
   refine .move ?_
   refine .split (t:=15) rfl (fun hc=>?_) (fun hc=>?_)
   ·refine .gT ?_
    refine .fa ?_ fo66_3
    refine .gT ?_
    refine .ld ?_ sc9
    refine .gT ?_
    refine .neS _ _ ?_
    refine .gT ?_
    refine .pickT ?_
    refine .pickF ?_
    refine .move ?_
    refine .split (t:=21) rfl (fun hd=>?_) (fun hd=>?_)
    ·refine .gF ?_
     refine .gF ?_
     refine .gF ?_
     refine .pickT ?_
     refine .move ?_
     refine .gF ?_
     refine .gF ?_
     refine .gF ?_
     refine .pickT ?_
     refine .move ?_
     refine .gF ?_
     refine .gF ?_
     refine .gF ?_
     refine .pickT ?_
     refine .move ?_
     refine .gF ?_
     refine .gF ?_
     refine .gF ?_
     refine .pickT ?_
     refine .assign (.z ?_)
     refine .ret (?_)
     exact .ret1 (h1:=.tmp (t:=2) rfl) ⟨_,⟨congrArg Value.bool (by simp only [Rc.odd,show (!hk)=true from ha,show (!decide (key=[]))=false from hb,show (!hv)=true from hc,show (!decide (val=[]))=true from hd,Bool.true_and,Bool.and_true,Bool.false_and,Bool.and_false,Bool.true_or,Bool.or_true,Bool.false_or,Bool.or_false]),rfl⟩,Am.auto⟩
    ·refine .gT ?_
     refine .fa ?_ fo66_4
     refine .gT ?_
     refine .ld ?_ sc3
     refine .gT ?_
     refine .lss ?_
     refine .pickF ?_
     refine .move ?_
     refine .split (t:=26) rfl (fun h3=>?_) (fun h3=>?_)
     ·refine .gF ?_
      refine .gF ?_
      refine .gF ?_
      refine .pickT ?_
      refine .move ?_
      refine .gF ?_
      refine .gF ?_
      refine .gF ?_
      refine .pickT ?_
      refine .move ?_
      refine .gF ?_
      refine .gF ?_
      refine .gF ?_
      refine .pickT ?_
      refine .assign (.z ?_)
      refine .ret (?_)
      exact .ret1 (h1:=.tmp (t:=2) rfl) ⟨_,⟨congrArg Value.bool (by simp only [Rc.odd,show (!hk)=true from ha,show (!decide (key=[]))=false from hb,show (!hv)=true from hc,show (!decide (val=[]))=false from hd,show decide (time < 0)=true from h3,Bool.true_and,Bool.and_true,Bool.false_and,Bool.and_false,Bool.true_or,Bool.or_true,Bool.false_or,Bool.or_false]),rfl⟩,Am.auto⟩
     ·refine .gT ?_
      refine .fa ?_ fo66_4
      refine .gT ?_
      refine .ld ?_ sc3
      refine .gT ?_
      refine .gtr ?_
      refine .pickF ?_
      refine .move ?_
      refine .split (t:=31) rfl (fun h4=>?_) (fun h4=>?_)
      ·refine .gF ?_
       refine .gF ?_
       refine .gF ?_
       refine .pickT ?_
       refine .move ?_
       refine .gF ?_
       refine .gF ?_
       refine .gF ?_
       refine .pickT ?_
       refine .assign (.z ?_)
       refine .ret (?_)
       exact .ret1 (h1:=.tmp (t:=2) rfl) ⟨_,⟨congrArg Value.bool (by simp only [Rc.odd,show (!hk)=true from ha,show (!decide (key=[]))=false from hb,show (!hv)=true from hc,show (!decide (val=[]))=false from hd,show decide (time < 0)=false from h3,show decide (1125899906842624 < time)=true from h4,Bool.true_and,Bool.and_true,Bool.false_and,Bool.and_false,Bool.true_or,Bool.or_true,Bool.false_or,Bool.or_false]),rfl⟩,Am.auto⟩
      ·refine .gT ?_
       refine .fa ?_ fo66_5
       refine .gT ?_
       refine .ld ?_ sc3
       refine .gT ?_
       refine .lss ?_
       refine .pickF ?_
       refine .move ?_
       refine .split (t:=36) rfl (fun h5=>?_) (fun h5=>?_)
       ·refine .gF ?_
        refine .gF ?_
        refine .gF ?_
        refine .pickT ?_
        refine .assign (.z ?_)
        refine .ret (?_)
        exact .ret1 (h1:=.tmp (t:=2) rfl) ⟨_,⟨congrArg Value.bool (by simp only [Rc.odd,show (!hk)=true from ha,show (!decide (key=[]))=false from hb,show (!hv)=true from hc,show (!decide (val=[]))=false from hd,show decide (time < 0)=false from h3,show decide (1125899906842624 < time)=false from h4,show decide (off < 0)=true from h5,Bool.true_and,Bool.and_true,Bool.false_and,Bool.and_false,Bool.true_or,Bool.or_true,Bool.false_or,Bool.or_false]),rfl⟩,Am.auto⟩
       ·refine .gT ?_
        refine .fa ?_ fo66_5
        refine .gT ?_
        refine .ld ?_ sc3
        refine .gT ?_
        refine .gtr ?_
        refine .pickF ?_
        refine .assign (.z ?_)
        refine .ret (?_)
        exact .ret1 (h1:=.tmp (t:=2) rfl) ⟨_,⟨congrArg Value.bool (by simp only [Rc.odd,show (!hk)=true from ha,show (!decide (key=[]))=false from hb,show (!hv)=true from hc,show (!decide (val=[]))=false from hd,show decide (time < 0)=false from h3,show decide (1125899906842624 < time)=false from h4,show decide (off < 0)=false from h5,Bool.true_and,Bool.and_true,Bool.false_and,Bool.and_false,Bool.true_or,Bool.or_true,Bool.false_or,Bool.or_false,dec99]),rfl⟩,Am.auto⟩
   ·refine .gF ?_
    refine .gF ?_
    refine .gF ?_
    refine .gT ?_
    refine .pickF ?_
    refine .pickF ?_
    refine .move ?_
    refine .gT ?_
    refine .fa ?_ fo66_4
    refine .gT ?_
    refine .ld ?_ sc3
    refine .gT ?_
    refine .lss ?_
    refine .pickF ?_
    refine .move ?_
    refine .split (t:=26) rfl (fun h3=>?_) (fun h3=>?_)
    ·refine .gF ?_
     refine .gF ?_
     refine .gF ?_
     refine .pickT ?_
     refine .move ?_
     refine .gF ?_
     refine .gF ?_
     refine .gF ?_
     refine .pickT ?_
     refine .move ?_
     refine .gF ?_
     refine .gF ?_
     refine .gF ?_
     refine .pickT ?_
     refine .assign (.z ?_)
     refine .ret (?_)
     exact .ret1 (h1:=.tmp (t:=2) rfl) ⟨_,⟨congrArg Value.bool (by simp only [Rc.odd,show (!hk)=true from ha,show (!decide (key=[]))=false from hb,show (!hv)=false from hc,show decide (time < 0)=true from h3,Bool.true_and,Bool.and_true,Bool.false_and,Bool.and_false,Bool.true_or,Bool.or_true,Bool.false_or,Bool.or_false]),rfl⟩,Am.auto⟩
    ·refine .gT ?_
     refine .fa ?_ fo66_4
     refine .gT ?_
     refine .ld ?_ sc3
     refine .gT ?_
     refine .gtr ?_
     refine .pickF ?_
     refine .move ?_
     refine .split (t:=31) rfl (fun h4=>?_) (fun h4=>?_)
     ·refine .gF ?_
      refine .gF ?_
      refine .gF ?_
      refine .pickT ?_
      refine .move ?_
      refine .gF ?_
      refine .gF ?_
      refine .gF ?_
      refine .pickT ?_
      refine .assign (.z ?_)
      refine .ret (?_)
      exact .ret1 (h1:=.tmp (t:=2) rfl) ⟨_,⟨congrArg Value.bool (by simp only [Rc.odd,show (!hk)=true from ha,show (!decide (key=[]))=false from hb,show (!hv)=false from hc,show decide (time < 0)=false from h3,show decide (1125899906842624 < time)=true from h4,Bool.true_and,Bool.and_true,Bool.false_and,Bool.and_false,Bool.true_or,Bool.or_true,Bool.false_or,Bool.or_false]),rfl⟩,Am.auto⟩
     ·refine .gT ?_
      refine .fa ?_ fo66_5
      refine .gT ?_
      refine .ld ?_ sc3
      refine .gT ?_
      refine .lss ?_
      refine .pickF ?_
      refine .move ?_
      refine .split (t:=36) rfl (fun h5=>?_) (fun h5=>?_)
      ·refine .gF ?_
       refine .gF ?_
       refine .gF ?_
       refine .pickT ?_
       refine .assign (.z ?_)
       refine .ret (?_)
       exact .ret1 (h1:=.tmp (t:=2) rfl) ⟨_,⟨congrArg Value.bool (by simp only [Rc.odd,show (!hk)=true from ha,show (!decide (key=[]))=false from hb,show (!hv)=false from hc,show decide (time < 0)=false from h3,show decide (1125899906842624 < time)=false from h4,show decide (off < 0)=true from h5,Bool.true_and,Bool.and_true,Bool.false_and,Bool.and_false,Bool.true_or,Bool.or_true,Bool.false_or,Bool.or_false]),rfl⟩,Am.auto⟩
      ·refine .gT ?_
       refine .fa ?_ fo66_5
       refine .gT ?_
       refine .ld ?_ sc3
       refine .gT ?_
       refine .gtr ?_
       refine .pickF ?_
       refine .assign (.z ?_)
       refine .ret (?_)
       exact .ret1 (h1:=.tmp (t:=2) rfl) ⟨_,⟨congrArg Value.bool (by simp only [Rc.odd,show (!hk)=true from ha,show (!decide (key=[]))=false from hb,show (!hv)=false from hc,show decide (time < 0)=false from h3,show decide (1125899906842624 < time)=false from h4,show decide (off < 0)=false from h5,Bool.true_and,Bool.and_true,Bool.false_and,Bool.and_false,Bool.true_or,Bool.or_true,Bool.false_or,Bool.or_false,dec99]),rfl⟩,Am.auto⟩
 ·refine .gF ?_
  refine .gF ?_
  refine .gF ?_
  refine .pickF ?_
  refine .move ?_
  refine .gT ?_
  refine .fa ?_ fo66_2
  refine .gT ?_
  refine .ld ?_ sc4
  refine .gT ?_
  refine .not ?_
  refine .gT ?_
  refine .move ?_
  refine .split (t:=15) rfl (fun hc=>?_) (fun hc=>?_)
  ·refine .gT ?_
   refine .fa ?_ fo66_3
   refine .gT ?_
   refine .ld ?_ sc9
   refine .gT ?_
   refine .neS _ _ ?_
   refine .gT ?_
   refine .pickT ?_
   refine .pickF ?_
   refine .move ?_
   refine .split (t:=21) rfl (fun hd=>?_) (fun hd=>?_)
   ·refine .gF ?_
    refine .gF ?_
    refine .gF ?_
    refine .pickT ?_
    refine .move ?_
    refine .gF ?_
    refine .gF ?_
    refine .gF ?_
    refine .pickT ?_
    refine .move ?_
    refine .gF ?_
    refine .gF ?_
    refine .gF ?_
    refine .pickT ?_
    refine .move ?_
    refine .gF ?_
    refine .gF ?_
    refine .gF ?_
    refine .pickT ?_
    refine .assign (.z ?_)
    refine .ret (?_)
    exact .ret1 (h1:=.tmp (t:=2) rfl) ⟨_,⟨congrArg Value.bool (by simp only [Rc.odd,show (!hk)=false from ha,show (!hv)=true from hc,show (!decide (val=[]))=true from hd,Bool.true_and,Bool.and_true,Bool.false_and,Bool.and_false,Bool.true_or,Bool.or_true,Bool.false_or,Bool.or_false]),rfl⟩,Am.auto⟩
   ·refine .gT ?_
    refine .fa ?_ fo66_4
    refine .gT ?_
    refine .ld ?_ sc3
    refine .gT ?_
    refine .lss ?_
    refine .pickF ?_
    refine .move ?_
    refine .split (t:=26) rfl (fun h3=>?_) (fun h3=>?_)
    ·refine .gF ?_
     refine .gF ?_
     refine .gF ?_
     refine .pickT ?_
     refine .move ?_
     refine .gF ?_
     refine .gF ?_
     refine .gF ?_
     refine .pickT ?_
     refine .move ?_
     refine .gF ?_
     refine .gF ?_
     refine .gF ?_
     refine .pickT ?_
     refine .assign (.z ?_)
     refine .ret (?_)
     exact .ret1 (h1:=.tmp (t:=2) rfl) ⟨_,⟨congrArg Value.bool (by simp only [Rc.odd,show (!hk)=false from ha,show (!hv)=true from hc,show (!decide (val=[]))=false from hd,show decide (time < 0)=true from h3,Bool.true_and,Bool.and_true,Bool.false_and,Bool.and_false,Bool.true_or,Bool.or_true,Bool.false_or,Bool.or_false]),rfl⟩,Am.auto⟩
    ·refine .gT ?_
     refine .fa ?_ fo66_4
     refine .gT ?_
     refine .ld ?_ sc3
     refine .gT ?_
     refine .gtr ?_
     refine .pickF ?_
     refine .move ?_
     refine .split (t:=31) rfl (fun h4=>?_) (fun h4=>?_)
     ·refine .gF ?_
      refine .gF ?_
      refine .gF ?_
      refine .pickT ?_
      refine .move ?_
      refine .gF ?_
      refine .gF ?_
      refine .gF ?_
      refine .pickT ?_
      refine .assign (.z ?_)
      refine .ret (?_)
      exact .ret1 (h1:=.tmp (t:=2) rfl) ⟨_,⟨congrArg Value.bool (by simp only [Rc.odd,show (!hk)=false from ha,show (!hv)=true from hc,show (!decide (val=[]))=false from hd,show decide (time < 0)=false from h3,show decide (1125899906842624 < time)=true from h4,Bool.true_and,Bool.and_true,Bool.false_and,Bool.and_false,Bool.true_or,Bool.or_true,Bool.false_or,Bool.or_false]),rfl⟩,Am.auto⟩
     ·refine .gT ?_
      refine .fa ?_ fo66_5
      refine .gT ?_
      refine .ld ?_ sc3
      refine .gT ?_
      refine .lss ?_
      refine .pickF ?_
      refine .move ?_
      refine .split (t:=36) rfl (fun h5=>?_) (fun h5=>?_)
      ·refine .gF ?_
       refine .gF ?_
       refine .gF ?_
       refine .pickT ?_
       refine .assign (.z ?_)
       refine .ret (?_)
       exact .ret1 (h1:=.tmp (t:=2) rfl) ⟨_,⟨congrArg Value.bool (by simp only [Rc.odd,show (!hk)=false from ha,show (!hv)=true from hc,show (!decide (val=[]))=false from hd,show decide (time < 0)=false from h3,show decide (1125899906842624 < time)=false from h4,show decide (off < 0)=true from h5,Bool.true_and,Bool.and_true,Bool.false_and,Bool.and_false,Bool.true_or,Bool.or_true,Bool.false_or,Bool.or_false]),rfl⟩,Am.auto⟩
      ·refine .gT ?_
       refine .fa ?_ fo66_5
       refine .gT ?_
       refine .ld ?_ sc3
       refine .gT ?_
       refine .gtr ?_
       refine .pickF ?_
       refine .assign (.z ?_)
       refine .ret (?_)
       exact .ret1 (h1:=.tmp (t:=2) rfl) ⟨_,⟨congrArg Value.bool (by simp only [Rc.odd,show (!hk)=false from ha,show (!hv)=true from hc,show (!decide (val=[]))=false from hd,show decide (time < 0)=false from h3,show decide (1125899906842624 < time)=false from h4,show decide (off < 0)=false from h5,Bool.true_and,Bool.and_true,Bool.false_and,Bool.and_false,Bool.true_or,Bool.or_true,Bool.false_or,Bool.or_false,dec99]),rfl⟩,Am.auto⟩
  ·refine .gF ?_
   refine .gF ?_
   refine .gF ?_
   refine .gT ?_
   refine .pickF ?_
   refine .pickF ?_
   refine .move ?_
   refine .gT ?_
   refine .fa ?_ fo66_4
   refine .gT ?_
   refine .ld ?_ sc3
   refine .gT ?_
   refine .lss ?_
   refine .pickF ?_
   refine .move ?_
   refine .split (t:=26) rfl (fun h3=>?_) (fun h3=>?_)
   ·refine .gF ?_
    refine .gF ?_
    refine .gF ?_
    refine .pickT ?_
    refine .move ?_
    refine .gF ?_
    refine .gF ?_
    refine .gF ?_
    refine .pickT ?_
    refine .move ?_
    refine .gF ?_
    refine .gF ?_
    refine .gF ?_
    refine .pickT ?_
    refine .assign (.z ?_)
    refine .ret (?_)
    exact .ret1 (h1:=.tmp (t:=2) rfl) ⟨_,⟨congrArg Value.bool (by simp only [Rc.odd,show (!hk)=false from ha,show (!hv)=false from hc,show decide (time < 0)=true from h3,Bool.true_and,Bool.and_true,Bool.false_and,Bool.and_false,Bool.true_or,Bool.or_true,Bool.false_or,Bool.or_false]),rfl⟩,Am.auto⟩
   ·refine .gT ?_
    refine .fa ?_ fo66_4
    refine .gT ?_
    refine .ld ?_ sc3
    refine .gT ?_
    refine .gtr ?_
    refine .pickF ?_
    refine .move ?_
    refine .split (t:=31) rfl (fun h4=>?_) (fun h4=>?_)
    ·refine .gF ?_
     refine .gF ?_
     refine .gF ?_
     refine .pickT ?_
     refine .move ?_
     refine .gF ?_
     refine .gF ?_
     refine .gF ?_
     refine .pickT ?_
     refine .assign (.z ?_)
     refine .ret (?_)
     exact .ret1 (h1:=.tmp (t:=2) rfl) ⟨_,⟨congrArg Value.bool (by simp only [Rc.odd,show (!hk)=false from ha,show (!hv)=false from hc,show decide (time < 0)=false from h3,show decide (1125899906842624 < time)=true from h4,Bool.true_and,Bool.and_true,Bool.false_and,Bool.and_false,Bool.true_or,Bool.or_true,Bool.false_or,Bool.or_false]),rfl⟩,Am.auto⟩
    ·refine .gT ?_
     refine .fa ?_ fo66_5
     refine .gT ?_
     refine .ld ?_ sc3
     refine .gT ?_
     refine .lss ?_
     refine .pickF ?_
     refine .move ?_
     refine .split (t:=36) rfl (fun h5=>?_) (fun h5=>?_)
     ·refine .gF ?_
      refine .gF ?_
      refine .gF ?_
      refine .pickT ?_
      refine .assign (.z ?_)
      refine .ret (?_)
      exact .ret1 (h1:=.tmp (t:=2) rfl) ⟨_,⟨congrArg Value.bool (by simp only [Rc.odd,show (!hk)=false from ha,show (!hv)=false from hc,show decide (time < 0)=false from h3,show decide (1125899906842624 < time)=false from h4,show decide (off < 0)=true from h5,Bool.true_and,Bool.and_true,Bool.false_and,Bool.and_false,Bool.true_or,Bool.or_true,Bool.false_or,Bool.or_false]),rfl⟩,Am.auto⟩
     ·refine .gT ?_
      refine .fa ?_ fo66_5
      refine .gT ?_
      refine .ld ?_ sc3
      refine .gT ?_
      refine .gtr ?_
      refine .pickF ?_
      refine .assign (.z ?_)
      refine .ret (?_)
      exact .ret1 (h1:=.tmp (t:=2) rfl) ⟨_,⟨congrArg Value.bool (by simp only [Rc.odd,show (!hk)=false from ha,show (!hv)=false from hc,show decide (time < 0)=false from h3,show decide (1125899906842624 < time)=false from h4,show decide (off < 0)=false from h5,Bool.true_and,Bool.and_true,Bool.false_and,Bool.and_false,Bool.true_or,Bool.or_true,Bool.false_or,Bool.or_false,dec99]),rfl⟩,Am.auto⟩
theorem refCheck {r:Rc}:Spec Tryz.prog 116 #[.agg r.v.toArray] [] fun F v M=>v=.int .i64 (ckE r)/\M=F:=by
 refine Spec.intro Tryz.func116 rfl rfl fun B F=>?_
 simp only [Tryz.ntmps116,List.cons_append,List.nil_append,env0,Nat.reduceAdd]
 obtain ⟨hk,key,hv,val,time,off⟩:=r
 refine .sr ?_
 refine .box fun b1=>?_
 refine .assign (.z (.seq (.sr ?_)))
 refine .ldA ?_ agg66
 refine .call (hc:=Tryz.call165) (sp:=refOdd (r:=⟨hk,key,hv,val,time,off⟩)) (h:=?_)
 rintro _ _ ⟨rfl,rfl⟩
 refine .z ?_
 refine .cond rfl (fun ho=>?_) (fun ho=>?_)
 ·refine .sr (.assign (.z ?_))
  refine .ret (.thenRet (?_))
  exact .ret1 (h1:=.tmp (t:=2) rfl) ⟨_,⟨congrArg (Value.int .i64) (ck1 ho),rfl⟩,Am.auto⟩
 ·refine .skip (.next (.seq (.sr ?_)))
  refine .fa ?_ fo66_1
  refine .ld ?_ sc9
  refine .lenT _ ?_ st9
  refine .gtr ?_
  refine .move ?_
  refine .split (t:=9) rfl (fun h7=>?_) (fun h7=>?_)
  ·refine .gF ?_
   refine .gF ?_
   refine .gF ?_
   refine .gF ?_
   refine .pickT ?_
   refine .z ?_
   refine .condT rfl rfl ?_
   refine .sr (.assign (.z ?_))
   refine .ret (.thenRet (?_))
   exact .ret1 (h1:=.tmp (t:=2) rfl) ⟨_,⟨congrArg (Value.int .i64) (ck2 ho (by simp only [Rc.big,show decide ((2000:Int) < ((key.length:Nat):Int))=true from h7,Bool.true_or])),rfl⟩,Am.auto⟩
  ·refine .gT ?_
   refine .fa ?_ fo66_3
   refine .gT ?_
   refine .ld ?_ sc9
   refine .gT ?_
   refine .lenT _ ?_ st9
   refine .gT ?_
   refine .gtr ?_
   refine .pickF ?_
   refine .z ?_
   refine .cond rfl (fun h8=>?_) (fun h8=>?_)
   ·refine .sr (.assign (.z ?_))
    refine .ret (.thenRet (?_))
    exact .ret1 (h1:=.tmp (t:=2) rfl) ⟨_,⟨congrArg (Value.int .i64) (ck2 ho (by simp only [Rc.big,show decide ((2000:Int) < ((val.length:Nat):Int))=true from h8,Bool.or_true])),rfl⟩,Am.auto⟩
   ·refine .skip (.next (.sr (.assign (.z ?_))))
    refine .ret (?_)
    exact .ret1 (h1:=.tmp (t:=2) rfl) ⟨_,⟨congrArg (Value.int .i64) (ck0 ho (by simp only [Rc.big,show decide ((2000:Int) < ((key.length:Nat):Int))=false from h7,show decide ((2000:Int) < ((val.length:Nat):Int))=false from h8,Bool.or_false])),rfl⟩,Am.auto⟩
def layR (v:Nat):Nat->Bytes
 | 0=>[]
 | i+1=>UInt8.ofNat (v >>> (8 * i)) :: layR v i
theorem layR_len (v:Nat):∀ i,(layR v i).length=i
 | 0=>rfl
 | i+1=>by rw [layR,List.length_cons,layR_len]
theorem refLay {u0:Value} {xs:Bytes} {size v:Nat} (hx:xs.length<=1073741824) (hs:size<=8) (hv:v < 2 ^ 64):Spec Tryz.prog 166 #[u0,.int .i64 (size:Int),.int .u64 (v:Int)] [rowR 5 1 u0 xs.length (bvs xs)]
  fun F u M=>M=rowR 5 1 u (xs++layR v size).length (bvs (xs++layR v size)) :: F:=by
 refine Spec.intro Tryz.func166 rfl rfl fun B F=>?_
 simp only [Tryz.ntmps166,List.cons_append,List.nil_append,env0,Nat.reduceAdd]
 refine .sr (.assign (.z (.seq (.sr (.move ?_)))))
 refine .sub ?_
 refine .assign (.z (.block ?_))
 refine .loopA (σ:=Nat×Bytes×Value) (fun s=>[(0,s.2.2),(2,.int .u64 (v:Int)),(7,.int .i64 ((s.1:Int) - 1))]) (fun s=>rowR 5 1 s.2.2 s.2.1.length (bvs s.2.1) :: F) (fun s=>s.1<=size/\s.2.1++layR v s.1=xs++layR v size) (fun s=>s.1) (size,xs,u0) ⟨Nat.le_refl _,rfl⟩ ?_
 rintro s hp
 obtain ⟨k,bs,u⟩:=s
 obtain ⟨hk,hb⟩:=hp
 simp only at hk hb
 have hle:bs.length+k=xs.length+size:=by have:=congrArg List.length hb;simp only [List.length_append,layR_len] at this;omega
 refine .seq (.sr (.move ?_))
 refine .geq ?_
 refine .z ?_
 refine .cond rfl (fun hd=>?_) (fun hd=>?_)
 ·have hk0:0 < k:=by have h:(0:Int)<=(k:Int) - 1:=of_decide_eq_true hd;omega
  obtain ⟨j,rfl⟩:∃ j,k=j+1:=⟨k - 1,by omega⟩
  refine .skip (.next (.seq (.block (.region (.move (.move (.move ?_)))))))
  refine .cast (d:=16) (u:=.int .i64 ((j:Nat):Int)) rfl (congrArg (Value.int .i64) (by show (((j+1:Nat):Int) - 1)=_;omega)) ?_
  refine .mul ?_
  refine .shr ?_
  refine .cvt ?_ un148 un5
  refine .cast (d:=19) (u:=bv (UInt8.ofNat (v >>> (8 * j)))) rfl (congrArg (Value.int .u8) (byte_of v hv (i:=((j:Nat):Int)) (by omega) (by omega))) ?_
  refine .buildS (fun b20=>?_) (bsb1 _)
  refine .append (m:=1) (news:=bvs [UInt8.ofNat (v >>> (8 * j))]) so59 (by decide) (by repeat (first | exact .here | apply Rem.there | apply Repl.there | apply Mem.there)) (Reads.pt (cs:=(bvs [UInt8.ofNat (v >>> (8 * j))]).toArray)) (by repeat (first | exact .here | apply Rem.there | apply Repl.there | apply Mem.there)) rfl (bvs_single _) (by show bs.length+1<=maxLen;unfold maxLen;omega) (by show (bs.length+1) * 1<=140737488355328;omega) ⟨_,z5,rfl⟩ (fun v' hv'=>?_)
  refine .assign (.nil (.blockNormal (.next (.region (.move ?_)))))
  refine .sub ?_
  refine .cast (d:=13) (u:=.int .i64 (((j:Nat):Int) - 1)) rfl (congrArg (Value.int .i64) (by show (((j+1:Nat):Int) - 1) - 1=_;omega)) ?_
  refine .assign (.nil ?_)
  exact .back (j,bs++[UInt8.ofNat (v >>> (8 * j))],v') ⟨by show j<=size;omega,by show (bs++[_])++layR v j=_;rw [List.append_assoc,<-hb];rfl⟩ (show j < j+1 by omega) (hI:=by rw [show bs.length+1=(bs++[UInt8.ofNat (v >>> (8 * j))]).length by simp,<-bvs_append];exact Am.auto)
 ·have hk0:k=0:=by have h:¬ (0:Int)<=(k:Int) - 1:=of_decide_eq_false hd;omega
  subst hk0
  have hb2:bs=xs++layR v size:=by rw [<- hb];exact (List.append_nil bs).symm
  refine .exit (.thenExit (.thenExit (.blockExit (?_))))
  refine .next (.sr (.move (.assign (.z ?_))))
  refine .ret (?_)
  rw [hb2]
  exact .ret1 (h1:=.tmp (t:=6) rfl) ⟨_,rfl,Am.auto⟩
theorem refEncode {r:Rc} {first:Int}:Spec Tryz.prog 167 #[.agg r.v.toArray,.int .i64 first] []
  fun F v M=>(encE r first≠0/\v=.tuple #[.slice none 0 0,.int .i64 (encE r first)]/\M=F) ∨
   (ckE r=0/\encE r first=0/\∃ u,v=.tuple #[u,.int .i64 0]/\M=rowR 5 1 u (encB r first).length (bvs (encB r first)) :: F):=by
 refine Spec.intro Tryz.func167 rfl rfl fun B F=>?_
 simp only [Tryz.ntmps167,List.cons_append,List.nil_append,env0,Nat.reduceAdd]
 obtain ⟨hk,key,hv,val,time,off⟩:=r
 refine .sr ?_
 refine .box fun b2=>?_
 refine .assign (.assign (.x ?_))
 refine .ldA ?_ agg66
 refine .call (hc:=Tryz.call116) (sp:=refCheck (r:=⟨hk,key,hv,val,time,off⟩)) (h:=?_)
 rintro _ _ ⟨rfl,rfl⟩
 refine .assign (.z (.seq (.sr (.move ?_))))
 refine .nei ?_
 refine .z ?_
 refine .cond rfl (fun he=>?_) (fun he=>?_)
 ·have hne:ckE ⟨hk,key,hv,val,time,off⟩≠0:=by simpa using he
  have hE:encE ⟨hk,key,hv,val,time,off⟩ first=ckE ⟨hk,key,hv,val,time,off⟩:=by unfold encE;rw [if_neg hne]
  refine .sr (.move (.assign (.assign (.z ?_))))
  refine .ret (.thenRet (?_))
  exact .ret2 (h1:=.tmp (t:=4) rfl) (h2:=.tmp (t:=5) rfl) ⟨_,.inl ⟨by rw [hE];exact hne,by rw [hE],rfl⟩,Am.auto⟩
 ·have hck:ckE ⟨hk,key,hv,val,time,off⟩=0:=by simpa using he
  obtain ⟨⟨hkl,hvl⟩,ht,ho⟩:=ckE_ok hck
  simp only at hkl hvl ht ho
  refine .skip (.next (.seq (.sr (.move ?_))))
  refine .lss ?_
  refine .move ?_
  refine .split (t:=16) rfl (fun hf1=>?_) (fun hf1=>?_)
  ·have hlt:first < 0:=of_decide_eq_true hf1
   have hE:encE ⟨hk,key,hv,val,time,off⟩ first=1:=by unfold encE;rw [if_pos hck,if_pos (.inl hlt)]
   refine .gF ?_
   refine .gF ?_
   refine .pickT ?_
   refine .z ?_
   refine .condT rfl rfl ?_
   refine .sr (.assign (.assign (.z ?_)))
   refine .ret (.thenRet (?_))
   exact .ret2 (h1:=.tmp (t:=4) rfl) (h2:=.tmp (t:=5) rfl) ⟨_,.inl ⟨by rw [hE];decide,by rw [hE],rfl⟩,Am.auto⟩
  ·have hge:¬ first < 0:=of_decide_eq_false hf1
   refine .gT ?_
   refine .move ?_
   refine .gT ?_
   refine .gtr ?_
   refine .pickF ?_
   refine .z ?_
   refine .cond rfl (fun hf2=>?_) (fun hf2=>?_)
   ·have hlt:1125899906842624 < first:=of_decide_eq_true hf2
    have hE:encE ⟨hk,key,hv,val,time,off⟩ first=1:=by unfold encE;rw [if_pos hck,if_pos (.inr hlt)]
    refine .sr (.assign (.assign (.z ?_)))
    refine .ret (.thenRet (?_))
    exact .ret2 (h1:=.tmp (t:=4) rfl) (h2:=.tmp (t:=5) rfl) ⟨_,.inl ⟨by rw [hE];decide,by rw [hE],rfl⟩,Am.auto⟩
   ·have hle:¬ 1125899906842624 < first:=of_decide_eq_false hf2
    have hE:encE ⟨hk,key,hv,val,time,off⟩ first=0:=by unfold encE;rw [if_pos hck,if_neg (by omega)]
    refine .skip (.next (.sr (.assign (.z (.seq (.sr ?_))))))
    refine .fa ?_ fo66_0
    refine .ld ?_ sc4
    refine .z ?_
    refine .join (σ:=Int) (fun s=>[(1,.int .i64 first),(2,.pointer (some ⟨b2,0,none⟩)),(7,.int .u8 s)]) (fun _=>[pt b2 (.cells #[.bool hk,sv key,.bool hv,sv val,.int .i64 time,.int .i64 off] 66 (0,0))]++F) (fun s=>s=if hk then 1 else 0) ?_ ?_
    ·refine .cond rfl (fun h1=>?_) (fun h1=>?_)
     ·refine .region (.assign (.nil ?_))
      exact .joined 1 (by rw [show hk=true from h1];rfl)
     ·refine .skip ?_
      exact .joined 0 (by rw [show hk=false from h1];rfl)
    ·rintro s1 hs1
     refine .next (.seq (.sr ?_))
     refine .fa ?_ fo66_2
     refine .ld ?_ sc4
     refine .z ?_
     refine .join (σ:=Int) (fun s=>[(1,.int .i64 first),(2,.pointer (some ⟨b2,0,none⟩)),(7,.int .u8 s)]) (fun _=>[pt b2 (.cells #[.bool hk,sv key,.bool hv,sv val,.int .i64 time,.int .i64 off] 66 (0,0))]++F) (fun s=>s=(((UInt8.ofNat (flN hk hv)).toNat:Nat):Int)) ?_ ?_
     ·refine .cond rfl (fun h2=>?_) (fun h2=>?_)
      ·refine .region (.move ?_)
       refine .or ?_
       refine .assign (.nil ?_)
       exact .joined (bor .u8 s1 2) (by rw [show hv=true from h2,hs1];cases hk<;>decide)
      ·refine .skip ?_
       exact .joined s1 (by rw [show hv=false from h2,hs1];cases hk<;>decide)
     ·rintro s2 hs2
      subst hs2
      have hoffc:IntKind.u64.wrap off=((off.toNat:Nat):Int):=by rw [show off=((off.toNat:Nat):Int) by omega,u64_wrap0 (by omega)];rfl
      have hva:=vint_len10 (n:=off.toNat) (by omega)
      have hvb:=vint_len10 (zigN_lt (time - first))
      have hvc:=vint_len10 (n:=key.length) (by omega)
      have hvd:=vint_len10 (n:=val.length) (by omega)
      refine .next (.sr (.move ?_))
      refine .buildS (fun b27=>?_) (bsb1 _)
      refine .fa ?_ fo66_5
      refine .ld ?_ sc3
      refine .cvt ?_ un3 un148
      refine .cast (d:=30) (u:=.int .u64 ((off.toNat:Nat):Int)) rfl (congrArg (Value.int .u64) hoffc) ?_
      refine .call (hc:=Tryz.call184) (sp:=refVarint (n:=off.toNat) (by omega)) (h:=?_)
      rintro va _ ⟨hna,rfl⟩
      refine .rowOpen (v:=va) (hx:=fun h=>by have:=congrArg List.length h;rw [bvs_length] at this;have:=vint_pos off.toNat;simp only [List.length_nil] at *;omega) fun Aa ca hva hRa _ _=>?_
      subst hva
      refine .to (A:=pt b27 (.cells #[.int .u8 (((UInt8.ofNat (flN hk hv)).toNat:Nat):Int)] 5 (0,0))) (A':=buf b27 5 1 (bvs (flB ⟨hk,key,hv,val,time,off⟩))) (buf_of_pt rfl) ?_
      refine .to (rowR_of_buf (xs:=bvs (flB ⟨hk,key,hv,val,time,off⟩)) (cap:=1) (by decide)) ?_
      refine .appendAny (v:=.slice (some ⟨b27,0,none⟩) 1 1) (m:=(vint off.toNat).length) (news:=bvs (vint off.toNat)) (R:=rowR 5 1 (.slice (some Aa) (vint off.toNat).length ca) (vint off.toNat).length (bvs (vint off.toNat))) so59 (by decide) (by repeat (first | exact .here | apply Rem.there | apply Repl.there | apply Mem.there)) hRa (by repeat (first | exact .here | apply Rem.there | apply Repl.there | apply Mem.there)) (by rw [bvs_length,Nat.mul_one]) (bvs_single _) (by simp only [bvs_length,flB,List.length_cons,List.length_nil];unfold maxLen;omega) (by simp only [bvs_length,flB,List.length_cons,List.length_nil];omega) ⟨_,z5,rfl⟩ (fun ua hua=>?_)
      rw [bvs_length,<-bvs_append,<-List.length_append]
      refine .assign (.x (.move ?_))
      refine .fa ?_ fo66_4
      refine .ld ?_ sc3
      refine .move ?_
      refine .sub ?_
      refine .call (hc:=Tryz.call185) (sp:=refZig (v:=time - first)) (h:=?_)
      rintro _ _ ⟨rfl,rfl⟩
      refine .call (hc:=Tryz.call184) (sp:=refVarint (n:=zigN (time - first)) (zigN_lt _)) (h:=?_)
      rintro vz _ ⟨hnz,rfl⟩
      refine .rowOpen (v:=vz) (hx:=fun h=>by have:=congrArg List.length h;rw [bvs_length] at this;have:=vint_pos (zigN (time - first));simp only [List.length_nil] at *;omega) fun Az cz hvz hRz _ _=>?_
      subst hvz
      refine .appendAny (v:=ua) (m:=(vint (zigN (time - first))).length) (news:=bvs (vint (zigN (time - first)))) (R:=rowR 5 1 (.slice (some Az) (vint (zigN (time - first))).length cz) (vint (zigN (time - first))).length (bvs (vint (zigN (time - first))))) so59 (by decide) (by repeat (first | exact .here | apply Rem.there | apply Repl.there | apply Mem.there)) hRz (by repeat (first | exact .here | apply Rem.there | apply Repl.there | apply Mem.there)) (by rw [bvs_length,Nat.mul_one]) (bvs_single _) (by simp only [List.length_append,flB,List.length_cons,List.length_nil];unfold maxLen;omega) (by simp only [List.length_append,flB,List.length_cons,List.length_nil];omega) ⟨_,z5,rfl⟩ (fun uz huz=>?_)
      rw [<- bvs_append,<-List.length_append]
      refine .assign (.z (.seq (.sr ?_)))
      refine .fa ?_ fo66_0
      refine .ld ?_ sc4
      refine .z ?_
      refine .join (σ:=Value) (fun s=>[(1,.int .i64 first),(2,.pointer (some ⟨b2,0,none⟩)),(8,s)]) (fun s=>[pt b2 (.cells #[.bool hk,sv key,.bool hv,sv val,.int .i64 time,.int .i64 off] 66 (0,0)),rowR 5 1 s ((flB ⟨hk,key,hv,val,time,off⟩++vint off.toNat++vint (zigN (time - first)))++(if hk then txtB key else [])).length (bvs ((flB ⟨hk,key,hv,val,time,off⟩++vint off.toNat++vint (zigN (time - first)))++(if hk then txtB key else [])))]++F) (fun _=>True) ?_ ?_
      ·refine .cond rfl (fun gk=>?_) (fun gk=>?_)
       ·have hb:hk=true:=gk
        have hPl:(flB ⟨hk,key,hv,val,time,off⟩++vint off.toNat++vint (zigN (time - first))).length<=4100:=by simp only [List.length_append,flB,txtB,List.length_cons,List.length_nil];omega
        refine .dr ([pt b2 (.cells #[.bool hk,sv key,.bool hv,sv val,.int .i64 time,.int .i64 off] 66 (0,0))]) [] 11 mixed .autoJ ?_
        refine .tk 0 rfl .move ?_
        refine .tk 1 rfl (.fa fo66_1) ?_
        refine .tk 2 rfl (.ld sc9) ?_
        refine .tk 3 rfl (.lenT _  st9) ?_
        refine .tk 4 rfl ((Qt.cvt un3 un148).eq (congrArg (Value.int .u64) (u64_wrap0 (a:=(key).length) (by omega)))) ?_
        refine .tk 7 rfl (.fa fo66_1) ?_
        refine .tk 8 rfl (.ld sc9) ?_
        refine .on 5 rfl fun hnp=>?_
        refine .call (hc:=Tryz.call184) (sp:=refVarint (n:=(key).length) (by omega)) (h:=?_)
        rintro vt _ ⟨hnt,rfl⟩
        refine .rowOpen (v:=vt) (hx:=fun h=>by have:=congrArg List.length h;rw [bvs_length] at this;have:=vint_pos (key).length;simp only [List.length_nil] at *;omega) fun At ct hvt hRt _ _=>?_
        subst hvt
        refine .nil (.wa hnp ?_)
        refine .on 6 rfl fun hnp=>?_
        refine .appendAny (v:=uz) (m:=(vint (key).length).length) (news:=bvs (vint (key).length)) (R:=rowR 5 1 (.slice (some At) (vint (key).length).length ct) (vint (key).length).length (bvs (vint (key).length))) so59 (by decide) (by repeat (first | exact .here | apply Rem.there | apply Repl.there | apply Mem.there)) hRt (by repeat (first | exact .here | apply Rem.there | apply Repl.there | apply Mem.there)) (by rw [bvs_length,Nat.mul_one]) (bvs_single _) (by unfold maxLen;omega) (by omega) ⟨_,z5,rfl⟩ (fun ut hut=>?_)
        rw [<- bvs_append,<-List.length_append]
        refine .nil (.wa hnp ?_)
        refine .on 9 rfl fun hnp=>?_
        refine .appendT (v:=ut) key so59 st9 (by repeat (first | exact .here | apply Rem.there | apply Repl.there | apply Mem.there)) (by rw [List.length_append];unfold maxLen;omega) (by rw [List.length_append];omega) ⟨_,z5,rfl⟩ (fun ux hux=>?_)
        rw [<- bvs_append,<-List.length_append,List.append_assoc (flB ⟨hk,key,hv,val,time,off⟩++vint off.toNat++vint (zigN (time - first)))]
        refine .nil (.wa hnp ?_)
        refine .tk 10 rfl .assign ?_
        refine .fin ?_
        have hstep:((flB ⟨hk,key,hv,val,time,off⟩++vint off.toNat++vint (zigN (time - first)))++(if hk then txtB key else []))=(flB ⟨hk,key,hv,val,time,off⟩++vint off.toNat++vint (zigN (time - first)))++(vint (key).length++key):=by simp only [hb,if_true];rfl
        rw [<- hstep]
        exact .joined ux trivial
       ·have hb:hk=false:=gk
        have hstep:((flB ⟨hk,key,hv,val,time,off⟩++vint off.toNat++vint (zigN (time - first)))++(if hk then txtB key else []))=(flB ⟨hk,key,hv,val,time,off⟩++vint off.toNat++vint (zigN (time - first))):=by simp only [hb];exact List.append_nil _
        refine .skip ?_
        rw [hstep]
        exact .joined uz trivial
      ·rintro sk _
       refine .next (.seq (.sr ?_))
       refine .fa ?_ fo66_2
       refine .ld ?_ sc4
       refine .z ?_
       refine .join (σ:=Value) (fun s=>[(1,.int .i64 first),(2,.pointer (some ⟨b2,0,none⟩)),(8,s)]) (fun s=>[pt b2 (.cells #[.bool hk,sv key,.bool hv,sv val,.int .i64 time,.int .i64 off] 66 (0,0)),rowR 5 1 s (((flB ⟨hk,key,hv,val,time,off⟩++vint off.toNat++vint (zigN (time - first)))++(if hk then txtB key else []))++(if hv then txtB val else [])).length (bvs (((flB ⟨hk,key,hv,val,time,off⟩++vint off.toNat++vint (zigN (time - first)))++(if hk then txtB key else []))++(if hv then txtB val else [])))]++F) (fun _=>True) ?_ ?_
       ·refine .cond rfl (fun gv=>?_) (fun gv=>?_)
        ·have hb:hv=true:=gv
         have hPl:((flB ⟨hk,key,hv,val,time,off⟩++vint off.toNat++vint (zigN (time - first)))++(if hk then txtB key else [])).length<=4100:=by simp only [List.length_append,flB,txtB,List.length_cons,List.length_nil];split<;>simp only [List.length_append,List.length_nil]<;>omega
         refine .dr ([pt b2 (.cells #[.bool hk,sv key,.bool hv,sv val,.int .i64 time,.int .i64 off] 66 (0,0))]) [] 11 mixed .autoJ ?_
         refine .tk 0 rfl .move ?_
         refine .tk 1 rfl (.fa fo66_3) ?_
         refine .tk 2 rfl (.ld sc9) ?_
         refine .tk 3 rfl (.lenT _  st9) ?_
         refine .tk 4 rfl ((Qt.cvt un3 un148).eq (congrArg (Value.int .u64) (u64_wrap0 (a:=(val).length) (by omega)))) ?_
         refine .tk 7 rfl (.fa fo66_3) ?_
         refine .tk 8 rfl (.ld sc9) ?_
         refine .on 5 rfl fun hnp=>?_
         refine .call (hc:=Tryz.call184) (sp:=refVarint (n:=(val).length) (by omega)) (h:=?_)
         rintro vt _ ⟨hnt,rfl⟩
         refine .rowOpen (v:=vt) (hx:=fun h=>by have:=congrArg List.length h;rw [bvs_length] at this;have:=vint_pos (val).length;simp only [List.length_nil] at *;omega) fun At ct hvt hRt _ _=>?_
         subst hvt
         refine .nil (.wa hnp ?_)
         refine .on 6 rfl fun hnp=>?_
         refine .appendAny (v:=sk) (m:=(vint (val).length).length) (news:=bvs (vint (val).length)) (R:=rowR 5 1 (.slice (some At) (vint (val).length).length ct) (vint (val).length).length (bvs (vint (val).length))) so59 (by decide) (by repeat (first | exact .here | apply Rem.there | apply Repl.there | apply Mem.there)) hRt (by repeat (first | exact .here | apply Rem.there | apply Repl.there | apply Mem.there)) (by rw [bvs_length,Nat.mul_one]) (bvs_single _) (by unfold maxLen;omega) (by omega) ⟨_,z5,rfl⟩ (fun ut hut=>?_)
         rw [<- bvs_append,<-List.length_append]
         refine .nil (.wa hnp ?_)
         refine .on 9 rfl fun hnp=>?_
         refine .appendT (v:=ut) val so59 st9 (by repeat (first | exact .here | apply Rem.there | apply Repl.there | apply Mem.there)) (by rw [List.length_append];unfold maxLen;omega) (by rw [List.length_append];omega) ⟨_,z5,rfl⟩ (fun ux hux=>?_)
         rw [<- bvs_append,<-List.length_append,List.append_assoc ((flB ⟨hk,key,hv,val,time,off⟩++vint off.toNat++vint (zigN (time - first)))++(if hk then txtB key else []))]
         refine .nil (.wa hnp ?_)
         refine .tk 10 rfl .assign ?_
         refine .fin ?_
         have hstep:(((flB ⟨hk,key,hv,val,time,off⟩++vint off.toNat++vint (zigN (time - first)))++(if hk then txtB key else []))++(if hv then txtB val else []))=((flB ⟨hk,key,hv,val,time,off⟩++vint off.toNat++vint (zigN (time - first)))++(if hk then txtB key else []))++(vint (val).length++val):=by simp only [hb,if_true];rfl
         rw [<- hstep]
         exact .joined ux trivial
        ·have hb:hv=false:=gv
         have hstep:(((flB ⟨hk,key,hv,val,time,off⟩++vint off.toNat++vint (zigN (time - first)))++(if hk then txtB key else []))++(if hv then txtB val else []))=((flB ⟨hk,key,hv,val,time,off⟩++vint off.toNat++vint (zigN (time - first)))++(if hk then txtB key else [])):=by simp only [hb];exact List.append_nil _
         refine .skip ?_
         rw [hstep]
         exact .joined sk trivial
       ·rintro sv _
        have hfl:(((flB ⟨hk,key,hv,val,time,off⟩++vint off.toNat++vint (zigN (time - first)))++(if hk then txtB key else []))++(if hv then txtB val else []))=encB ⟨hk,key,hv,val,time,off⟩ first:=by unfold encB;simp only [List.append_assoc]
        refine .next (.sr (.move (.assign (.assign (.z ?_)))))
        refine .ret (?_)
        rw [hfl]
        exact .ret2 (h1:=.tmp (t:=4) rfl) (h2:=.tmp (t:=5) rfl) ⟨_,.inr ⟨hck,hE,sv,rfl,rfl⟩,Am.auto⟩
def bodyH (b:Bt):Bytes:=[]++layR (u64N b.prod) 8++layR (u64N b.seq) 8++layR (u64N b.span) 4++layR (u64N ((b.recs.length:Nat):Int)) 4++layR (u64N (firstT b)) 8
def bodyB (b:Bt):Bytes:=bodyH b++b.recs.flatMap fun r=>encB r (firstT b)
theorem bodyH_len (b:Bt):(bodyH b).length=32:=by simp only [bodyH,List.length_append,layR_len,List.length_nil]
theorem body_raw (b:Bt):(bodyB b).length+16=(batRaw b).length:=by
 unfold bodyB batRaw
 rw [List.length_append,List.length_append,bodyH_len,batHead_len]
 omega
theorem refBody {R:HP} {A:Option Addr} {c:Nat} {b:Bt} (hR:Reads R A b.rv) (hpos:0 < b.recs.length) (hl:b.recs.length<=10000) (hall:∀ r∈b.recs,ckE r=0):Spec Tryz.prog 117 #[.agg (b.v (.slice A b.recs.length c)).toArray] [R]
  fun F v M=>M=rowR 5 1 v (bodyB b).length (bvs (bodyB b)) :: R :: F:=by
 refine Spec.intro Tryz.func117 rfl rfl fun B F=>?_
 simp only [Tryz.ntmps117,List.cons_append,List.nil_append,env0,Nat.reduceAdd]
 obtain ⟨ab,ao,rfl⟩:∃ ab ao,A=some ⟨ab,ao,none⟩:=by
  cases A with
  | none =>
   have h0:b.rv=[]:=hR
   have h1:=flat_length Rc.v_len b.recs
   rw [show b.recs.flatMap Rc.v=[] from h0] at h1
   simp at h1
   omega
  | some a =>
   obtain ⟨x,y,z⟩:=a
   have:z=none:=hR.1
   subst this
   exact ⟨x,y,rfl⟩
 obtain ⟨r0,hr0⟩:∃ r,b.recs[0]?=some r:=⟨_,List.getElem?_eq_getElem hpos⟩
 have hft:firstT b=r0.time:=by unfold firstT;rw [hr0];rfl
 have hcell:b.rv[4]?=some (.int .i64 (firstT b)):=by
  have h1:=flat_at Rc.v_len _ _ _ hr0
  rw [hft]
  have h2:(((b.recs.flatMap Rc.v).drop (0 * 6)).take 6)[4]?=some (.int .i64 r0.time):=by rw [h1];rfl
  rw [List.getElem?_take,if_pos (by decide),List.getElem?_drop] at h2
  exact h2
 have hfr:0<=firstT b/\firstT b<=1125899906842624:=by
  have:=(ckE_ok (hall r0 (List.mem_of_getElem? hr0))).2.1
  rw [hft];exact this
 refine .emp (A:=rowR 5 1 (.slice none 0 0) 0 (bvs [])) (rowR.nil _) ?_
 refine .sr ?_
 refine .box fun b1=>?_
 refine .assign (.x ?_)
 refine .fa ?_ fo34_2
 refine .ld ?_ sc3
 refine .cvt ?_ un3 un148
 refine .cast (d:=9) rfl (congrArg (Value.int .u64) (u64N_eq (b.prod))) ?_
 refine .call (hc:=Tryz.call166) (sp:=refLay (xs:=([]:Bytes)) (size:=8) (v:=u64N (b.prod)) (by simp only [List.length_append,layR_len,List.length_nil];decide) (by decide) (u64N_lt _)) (h:=?_)
 rintro _ _ rfl
 refine .assign (.x (.move ?_))
 refine .fa ?_ fo34_3
 refine .ld ?_ sc3
 refine .cvt ?_ un3 un148
 refine .cast (d:=14) rfl (congrArg (Value.int .u64) (u64N_eq (b.seq))) ?_
 refine .call (hc:=Tryz.call166) (sp:=refLay (xs:=(([]:Bytes)++layR (u64N (b.prod)) 8)) (size:=8) (v:=u64N (b.seq)) (by simp only [List.length_append,layR_len,List.length_nil];decide) (by decide) (u64N_lt _)) (h:=?_)
 rintro _ _ rfl
 refine .assign (.x (.move ?_))
 refine .fa ?_ fo34_1
 refine .ld ?_ sc3
 refine .cvt ?_ un3 un148
 refine .cast (d:=19) rfl (congrArg (Value.int .u64) (u64N_eq (b.span))) ?_
 refine .call (hc:=Tryz.call166) (sp:=refLay (xs:=((([]:Bytes)++layR (u64N (b.prod)) 8)++layR (u64N (b.seq)) 8)) (size:=4) (v:=u64N (b.span)) (by simp only [List.length_append,layR_len,List.length_nil];decide) (by decide) (u64N_lt _)) (h:=?_)
 rintro _ _ rfl
 refine .assign (.x (.move ?_))
 refine .fa ?_ fo34_4
 refine .ld ?_ sc32
 refine .lenS ?_ sl32
 refine .cvt ?_ un3 un148
 refine .cast (d:=25) rfl (congrArg (Value.int .u64) (u64N_eq (((b.recs.length:Nat):Int)))) ?_
 refine .call (hc:=Tryz.call166) (sp:=refLay (xs:=(((([]:Bytes)++layR (u64N (b.prod)) 8)++layR (u64N (b.seq)) 8)++layR (u64N (b.span)) 4)) (size:=4) (v:=u64N (((b.recs.length:Nat):Int))) (by simp only [List.length_append,layR_len,List.length_nil];decide) (by decide) (u64N_lt _)) (h:=?_)
 rintro _ _ rfl
 refine .assign (.x (.move ?_))
 refine .fa ?_ fo34_4
 refine .ld ?_ sc32
 refine .idx ?_ so32
 refine .fa ?_ fo66_4
 refine .ldR (i:=4) ?_ sc3 hR hcell
 refine .cvt ?_ un3 un148
 refine .cast (d:=33) rfl (congrArg (Value.int .u64) (u64N_eq (firstT b))) ?_
 refine .call (hc:=Tryz.call166) (sp:=refLay (xs:=((((([]:Bytes)++layR (u64N (b.prod)) 8)++layR (u64N (b.seq)) 8)++layR (u64N (b.span)) 4)++layR (u64N (((b.recs.length:Nat):Int))) 4)) (size:=8) (v:=u64N (firstT b)) (by simp only [List.length_append,layR_len,List.length_nil];decide) (by decide) (u64N_lt _)) (h:=?_)
 rintro _ _ rfl
 refine .assign (.z (.seq (.sr (.assign (.z (.block ?_))))))
 have h00:(bodyH b++(b.recs.take 0).flatMap fun r=>encB r (firstT b))=(((((([]:Bytes)++layR (u64N (b.prod)) 8)++layR (u64N (b.seq)) 8)++layR (u64N (b.span)) 4)++layR (u64N (((b.recs.length:Nat):Int))) 4)++layR (u64N (firstT b)) 8):=by rw [List.take_zero];exact List.append_nil _
 rw [<- h00]
 refine .loopA (σ:=Nat×Value) (fun s=>[(1,.pointer (some ⟨b1,0,none⟩)),(3,s.2),(4,.int .i64 ((s.1:Nat):Int))]) (fun s=>[pt b1 (.cells #[.int .i64 b.base,.int .i64 b.span,.int .i64 b.prod,.int .i64 b.seq,.slice (some ⟨ab,ao,none⟩) b.recs.length c] 34 (0,0)),rowR 5 1 s.2 (bodyH b++(b.recs.take s.1).flatMap fun r=>encB r (firstT b)).length (bvs (bodyH b++(b.recs.take s.1).flatMap fun r=>encB r (firstT b))),R]++F) (fun s=>s.1<=b.recs.length) (fun s=>b.recs.length - s.1) (0,_) (Nat.zero_le _) ?_
 rintro s hs
 obtain ⟨i,u⟩:=s
 simp only at hs
 refine .seq (.sr (.move ?_))
 refine .fa ?_ fo34_4
 refine .ld ?_ sc32
 refine .lenS ?_ sl32
 refine .lss ?_
 refine .z ?_
 refine .cond rfl (fun hd=>?_) (fun hd=>?_)
 ·have hil:i < b.recs.length:=by have h:(i:Int) < ((b.recs.length:Nat):Int):=of_decide_eq_true hd;omega
  obtain ⟨r,hr⟩:∃ r,b.recs[i]?=some r:=⟨_,List.getElem?_eq_getElem hil⟩
  have hck:ckE r=0:=hall r (List.mem_of_getElem? hr)
  have hel:=encB_len (first:=firstT b) hck
  have hstep:bodyH b++(b.recs.take (i+1)).flatMap (fun r=>encB r (firstT b))=(bodyH b++(b.recs.take i).flatMap fun r=>encB r (firstT b))++encB r (firstT b):=by
   rw [List.take_add_one,hr]
   simp
  have hol:(bodyH b++(b.recs.take i).flatMap fun r=>encB r (firstT b)).length<=32+4100 * b.recs.length:=by
   rw [List.length_append,bodyH_len]
   have:=encs_len (f:=firstT b) (l:=b.recs.take i) fun x hx=>hall x (List.mem_of_mem_take hx)
   rw [List.length_take] at this
   omega
  refine .skip (.next (.seq (.block (.seq ?_))))
  refine .dr ([pt b1 (.cells #[.int .i64 b.base,.int .i64 b.span,.int .i64 b.prod,.int .i64 b.seq,.slice (some ⟨ab,ao,none⟩) b.recs.length c] 34 (0,0)),R]) [] 16 mixed .autoJ ?_
  refine .tk 0 rfl (.fa fo34_4) ?_
  refine .tk 1 rfl (.ld sc32) ?_
  refine .tk 2 rfl .move ?_
  refine .tk 3 rfl (.idx so32) ?_
  refine .tk 4 rfl (Qt.ldAR (i:=i * 6) (us:=r.v) agg66 hR (flat_at Rc.v_len _ _ _ hr) (flat_fit Rc.v_len hil)) ?_
  refine .tk 5 rfl (.fa fo34_4) ?_
  refine .tk 6 rfl (.ld sc32) ?_
  refine .tk 7 rfl (.idx so32) ?_
  refine .tk 8 rfl (.fa fo66_4) ?_
  refine .tk 9 rfl (Qt.ldR (i:=4) sc3 hR hcell) ?_
  refine .on 10 rfl fun hnp=>?_
  refine .call (hc:=Tryz.call167) (sp:=refEncode (r:=r) (first:=firstT b)) (h:=?_)
  rintro _ _ (⟨h0,_,_⟩ | ⟨_,_,ue,rfl,rfl⟩)
  ·exact absurd (encE_ok hck hfr) h0
  refine .nil (.wa hnp ?_)
  refine .tk 11 rfl .move ?_
  refine .tk 12 rfl .extract ?_
  refine .tk 13 rfl .extract ?_
  refine .tk 14 rfl .assign ?_
  refine .tk 15 rfl .assign ?_
  refine .fin ?_
  refine .next (.region (.move (.move ?_)))
  refine .rowOpen (v:=ue) (hx:=fun h=>by have:=congrArg List.length h;rw [bvs_length] at this;have:=encB_pos r (firstT b);simp only [List.length_nil] at *;omega) fun A4 c4 hv4 hR4 h41 h42=>?_
  subst hv4
  refine .appendAny (v:=u) (m:=(encB r (firstT b)).length) (news:=bvs (encB r (firstT b))) (R:=rowR 5 1 (.slice (some A4) (encB r (firstT b)).length c4) (encB r (firstT b)).length (bvs (encB r (firstT b)))) so59 (by decide) (by repeat (first | exact .here | apply Rem.there | apply Repl.there | apply Mem.there)) hR4 (by repeat (first | exact .here | apply Rem.there | apply Repl.there | apply Mem.there)) (by rw [bvs_length,Nat.mul_one]) (bvs_single _) (by show (bodyH b++(b.recs.take i).flatMap fun r=>encB r (firstT b)).length+_<=maxLen;unfold maxLen;omega) (by show ((bodyH b++(b.recs.take i).flatMap fun r=>encB r (firstT b)).length+_) * 1<=140737488355328;omega) ⟨_,z5,rfl⟩ (fun v' hv'=>?_)
  rw [show (bvs (bodyH b++(b.recs.take (i,u).1).flatMap fun r=>encB r (firstT b)))++bvs (encB r (firstT b))=bvs (bodyH b++(b.recs.take (i+1)).flatMap fun r=>encB r (firstT b)) by rw [hstep];exact (bvs_append _ _).symm,show (bodyH b++(b.recs.take (i,u).1).flatMap fun r=>encB r (firstT b)).length+(encB r (firstT b)).length=(bodyH b++(b.recs.take (i+1)).flatMap fun r=>encB r (firstT b)).length by rw [hstep];exact List.length_append.symm]
  refine .assign (.nil (.blockNormal (.next (.region (.move ?_)))))
  refine .add ?_
  refine .assign (.nil ?_)
  exact .back (i+1,v') (show i+1<=b.recs.length from hil) (show b.recs.length - (i+1) < b.recs.length - i by omega)
 ·have hge:i=b.recs.length:=by have h:¬ (i:Int) < ((b.recs.length:Nat):Int):=of_decide_eq_false hd;omega
  subst hge
  have hraw:(bodyH b++(b.recs.take b.recs.length).flatMap fun r=>encB r (firstT b))=bodyB b:=by rw [List.take_length];rfl
  refine .exit (.thenExit (.thenExit (.blockExit (?_))))
  refine .next (.sr (.move (.assign (.z ?_))))
  refine .ret (?_)
  rw [hraw]
  exact .ret1 (h1:=.tmp (t:=2) rfl) ⟨_,rfl,Am.auto⟩
theorem batE_offs {b:Bt} (h:offsOk b=false):(1:Int)=batE b:=by unfold batE laidE;simp [h]
theorem batE_bad {b:Bt} (ho:offsOk b=true) (h:firstBad b.recs≠0):firstBad b.recs=batE b:=by
 have h1:laidE b=firstBad b.recs:=by unfold laidE;rw [if_pos ho]
 unfold batE
 rw [h1,if_neg h]
theorem batE_neg {b:Bt} {r:Rc} (hr:b.recs[0]?=some r) (h:r.off < 0):(1:Int)=batE b:=by
 have hk:ckE r=1:=by
  unfold ckE
  rw [if_pos]
  simp [Rc.odd,h]
 by_cases ho:offsOk b=true
 ·have hf:=firstBad_at hr (fun j x hj=>absurd hj (Nat.not_lt_zero _)) (by rw [hk];decide)
  rw [<- batE_bad ho (by rw [hf,hk];decide),hf,hk]
 ·exact batE_offs (by simpa using ho)
theorem batE_big {b:Bt} (ho:offsOk b=true) (hall:∀ r∈b.recs,ckE r=0) (h:6000 < (bodyB b).length+16):(2:Int)=batE b:=by
 have h1:laidE b=0:=by unfold laidE;rw [if_pos ho];exact firstBad_ok hall
 unfold batE
 rw [if_pos h1,batB_len,<-body_raw,if_pos h]
theorem batE_zero {b:Bt} (ho:offsOk b=true) (hall:∀ r∈b.recs,ckE r=0) (h:¬ 6000 < (bodyB b).length+16):(0:Int)=batE b:=by
 have h1:laidE b=0:=by unfold laidE;rw [if_pos ho];exact firstBad_ok hall
 unfold batE
 rw [if_pos h1,batB_len,<-body_raw,if_neg h]
def sizK :List Rc->Nat
 | []=>0
 | r :: l=>r.key.length+r.val.length+sizK l
theorem sizK_append (l m:List Rc):sizK (l++m)=sizK l+sizK m:=by
 induction l with
 | nil=>simp [sizK]
 | cons r l ih=>simp only [List.cons_append,sizK,ih];omega
theorem encB_ge {r:Rc} {f:Int} (h:ckE r=0):r.key.length+r.val.length<=(encB r f).length:=by
 have ho:r.odd=false:=by
  unfold ckE at h
  by_cases h1:r.odd=true
  ·rw [if_pos h1] at h;cases h
  ·simpa using h1
 obtain ⟨hk,key,hv,val,time,off⟩:=r
 simp only [Rc.odd,Bool.or_eq_false_iff] at ho
 obtain ⟨⟨⟨⟨⟨h1,h2⟩,_⟩,_⟩,_⟩,_⟩:=ho
 unfold encB txtB
 simp only [List.length_append]
 cases hk<;>cases hv<;>simp_all<;>omega
theorem sizK_le {f:Int}:∀ {l:List Rc},(∀ r∈l,ckE r=0)->sizK l<=(l.flatMap fun r=>encB r f).length/\sizK l<=4000 * l.length
 | [],_=>⟨Nat.le_refl _,Nat.le_refl _⟩
 | r :: l,h=>by
  have h1:=encB_ge (f:=f) (h r (List.mem_cons_self ..))
  have h2:=sizK_le (f:=f) fun x hx=>h x (List.mem_cons_of_mem _ hx)
  have h3:=(ckE_ok (h r (List.mem_cons_self ..))).1
  rw [List.flatMap_cons,List.length_append,List.length_cons]
  simp only [sizK]
  omega
theorem refCheckBatch {R:HP} {A:Option Addr} {c:Nat} {b:Bt} (hR:Reads R A b.rv) (hl:b.recs.length<=10000):Spec Tryz.prog 59 #[.agg (b.v (.slice A b.recs.length c)).toArray] [R] fun F v M=>v=.int .i64 (batE b)/\M=R :: F:=by
 refine Spec.intro Tryz.func59 rfl rfl fun B F=>?_
 simp only [Tryz.ntmps59,List.cons_append,List.nil_append,env0,Nat.reduceAdd]
 refine .sr ?_
 refine .box fun b1=>?_
 refine .assign (.z (.seq (.sr ?_)))
 refine .fa ?_ fo34_0
 refine .ld ?_ sc3
 refine .lss ?_
 refine .move ?_
 refine .split (t:=12) rfl (fun h1=>?_) (fun h1=>?_)
 ·refine .gF ?_
  refine .gF ?_
  refine .gF ?_
  refine .pickT ?_
  refine .move ?_
  refine .gF ?_
  refine .gF ?_
  refine .gF ?_
  refine .pickT ?_
  refine .move ?_
  refine .gF ?_
  refine .gF ?_
  refine .gF ?_
  refine .pickT ?_
  refine .move ?_
  refine .gF ?_
  refine .gF ?_
  refine .gF ?_
  refine .pickT ?_
  refine .move ?_
  refine .gF ?_
  refine .gF ?_
  refine .gF ?_
  refine .pickT ?_
  refine .move ?_
  refine .gF ?_
  refine .gF ?_
  refine .gF ?_
  refine .gF ?_
  refine .pickT ?_
  refine .z ?_
  refine .condT rfl rfl ?_
  refine .sr (.assign (.z ?_))
  refine .ret (.thenRet (?_))
  exact .ret1 (h1:=.tmp (t:=2) rfl) ⟨_,⟨congrArg (Value.int .i64) (batE_offs (offs_head (by simp only [headBad,show _=true from h1,Bool.or_true,Bool.true_or])).symm),rfl⟩,Am.auto⟩
 ·refine .gT ?_
  refine .fa ?_ fo34_0
  refine .gT ?_
  refine .ld ?_ sc3
  refine .gT ?_
  refine .gtr ?_
  refine .pickF ?_
  refine .move ?_
  refine .split (t:=17) rfl (fun h2=>?_) (fun h2=>?_)
  ·refine .gF ?_
   refine .gF ?_
   refine .gF ?_
   refine .pickT ?_
   refine .move ?_
   refine .gF ?_
   refine .gF ?_
   refine .gF ?_
   refine .pickT ?_
   refine .move ?_
   refine .gF ?_
   refine .gF ?_
   refine .gF ?_
   refine .pickT ?_
   refine .move ?_
   refine .gF ?_
   refine .gF ?_
   refine .gF ?_
   refine .pickT ?_
   refine .move ?_
   refine .gF ?_
   refine .gF ?_
   refine .gF ?_
   refine .gF ?_
   refine .pickT ?_
   refine .z ?_
   refine .condT rfl rfl ?_
   refine .sr (.assign (.z ?_))
   refine .ret (.thenRet (?_))
   exact .ret1 (h1:=.tmp (t:=2) rfl) ⟨_,⟨congrArg (Value.int .i64) (batE_offs (offs_head (by simp only [headBad,show _=true from h2,Bool.or_true,Bool.true_or])).symm),rfl⟩,Am.auto⟩
  ·refine .gT ?_
   refine .fa ?_ fo34_1
   refine .gT ?_
   refine .ld ?_ sc3
   refine .gT ?_
   refine .lss ?_
   refine .pickF ?_
   refine .move ?_
   refine .split (t:=22) rfl (fun h3=>?_) (fun h3=>?_)
   ·refine .gF ?_
    refine .gF ?_
    refine .gF ?_
    refine .pickT ?_
    refine .move ?_
    refine .gF ?_
    refine .gF ?_
    refine .gF ?_
    refine .pickT ?_
    refine .move ?_
    refine .gF ?_
    refine .gF ?_
    refine .gF ?_
    refine .pickT ?_
    refine .move ?_
    refine .gF ?_
    refine .gF ?_
    refine .gF ?_
    refine .gF ?_
    refine .pickT ?_
    refine .z ?_
    refine .condT rfl rfl ?_
    refine .sr (.assign (.z ?_))
    refine .ret (.thenRet (?_))
    exact .ret1 (h1:=.tmp (t:=2) rfl) ⟨_,⟨congrArg (Value.int .i64) (batE_offs (offs_head (by simp only [headBad,show _=true from h3,Bool.or_true,Bool.true_or])).symm),rfl⟩,Am.auto⟩
   ·refine .gT ?_
    refine .fa ?_ fo34_1
    refine .gT ?_
    refine .ld ?_ sc3
    refine .gT ?_
    refine .gtr ?_
    refine .pickF ?_
    refine .move ?_
    refine .split (t:=27) rfl (fun h4=>?_) (fun h4=>?_)
    ·refine .gF ?_
     refine .gF ?_
     refine .gF ?_
     refine .pickT ?_
     refine .move ?_
     refine .gF ?_
     refine .gF ?_
     refine .gF ?_
     refine .pickT ?_
     refine .move ?_
     refine .gF ?_
     refine .gF ?_
     refine .gF ?_
     refine .gF ?_
     refine .pickT ?_
     refine .z ?_
     refine .condT rfl rfl ?_
     refine .sr (.assign (.z ?_))
     refine .ret (.thenRet (?_))
     exact .ret1 (h1:=.tmp (t:=2) rfl) ⟨_,⟨congrArg (Value.int .i64) (batE_offs (offs_head (by simp only [headBad,show _=true from h4,Bool.or_true,Bool.true_or])).symm),rfl⟩,Am.auto⟩
    ·refine .gT ?_
     refine .fa ?_ fo34_2
     refine .gT ?_
     refine .ld ?_ sc3
     refine .gT ?_
     refine .lss ?_
     refine .pickF ?_
     refine .move ?_
     refine .split (t:=32) rfl (fun h5=>?_) (fun h5=>?_)
     ·refine .gF ?_
      refine .gF ?_
      refine .gF ?_
      refine .pickT ?_
      refine .move ?_
      refine .gF ?_
      refine .gF ?_
      refine .gF ?_
      refine .gF ?_
      refine .pickT ?_
      refine .z ?_
      refine .condT rfl rfl ?_
      refine .sr (.assign (.z ?_))
      refine .ret (.thenRet (?_))
      exact .ret1 (h1:=.tmp (t:=2) rfl) ⟨_,⟨congrArg (Value.int .i64) (batE_offs (offs_head (by simp only [headBad,show _=true from h5,Bool.or_true,Bool.true_or])).symm),rfl⟩,Am.auto⟩
     ·refine .gT ?_
      refine .fa ?_ fo34_3
      refine .gT ?_
      refine .ld ?_ sc3
      refine .gT ?_
      refine .lss ?_
      refine .pickF ?_
      refine .move ?_
      refine .split (t:=37) rfl (fun h6=>?_) (fun h6=>?_)
      ·refine .gF ?_
       refine .gF ?_
       refine .gF ?_
       refine .gF ?_
       refine .pickT ?_
       refine .z ?_
       refine .condT rfl rfl ?_
       refine .sr (.assign (.z ?_))
       refine .ret (.thenRet (?_))
       exact .ret1 (h1:=.tmp (t:=2) rfl) ⟨_,⟨congrArg (Value.int .i64) (batE_offs (offs_head (by simp only [headBad,show _=true from h6,Bool.or_true,Bool.true_or])).symm),rfl⟩,Am.auto⟩
      ·refine .gT ?_
       refine .fa ?_ fo34_4
       refine .gT ?_
       refine .ld ?_ sc32
       refine .gT ?_
       refine .lenS ?_ sl32
       refine .gT ?_
       refine .eqi ?_
       refine .pickF ?_
       refine .z ?_
       refine .cond rfl (fun h7=>?_) (fun h7=>?_)
       ·refine .sr (.assign (.z ?_))
        refine .ret (.thenRet (?_))
        exact .ret1 (h1:=.tmp (t:=2) rfl) ⟨_,⟨congrArg (Value.int .i64) (batE_offs (offs_head (by simp only [headBad,show _=true from h7,Bool.or_true])).symm),rfl⟩,Am.auto⟩
       ·have hhead:headBad b=false:=by simp only [headBad,show decide (b.base < 0)=false from h1,show decide (1125899906842624 < b.base)=false from h2,show decide (b.span < 1)=false from h3,show decide (100 < b.span)=false from h4,show decide (b.prod < 0)=false from h5,show decide (b.seq < 0)=false from h6,show decide (((b.recs.length:Nat):Int)=0)=false from h7,Bool.or_false]
        have hpos:0 < b.recs.length:=by have h:¬ ((b.recs.length:Nat):Int)=0:=of_decide_eq_false h7;omega
        obtain ⟨ab,ao,rfl⟩:∃ ab ao,A=some ⟨ab,ao,none⟩:=by
         cases A with
         | none =>
          have h0:b.rv=[]:=hR
          have h1:=flat_length Rc.v_len b.recs
          rw [show b.recs.flatMap Rc.v=[] from h0] at h1
          simp at h1
          omega
         | some a =>
          obtain ⟨x,y,z⟩:=a
          have:z=none:=hR.1
          subst this
          exact ⟨x,y,rfl⟩
        refine .skip (.next (.sr (.assign (.z (.seq (.sr (.assign (.z (.block ?_)))))))))
        refine .loopA (σ:=Nat×Int) (fun s=>[(1,.pointer (some ⟨b1,0,none⟩)),(3,.int .i64 s.2),(4,.int .i64 ((s.1:Nat):Int))]) (fun _=>[pt b1 (.cells #[.int .i64 b.base,.int .i64 b.span,.int .i64 b.prod,.int .i64 b.seq,.slice (some ⟨ab,ao,none⟩) b.recs.length c] 34 (0,0)),R]++F) (fun s=>s.1<=b.recs.length/\(s.1=0->s.2=-1)/\(0 < s.1->s.2=offAt b (s.1 - 1))/\∀ j,j < s.1->offRow b j=true) (fun s=>b.recs.length - s.1) (0,-1) ⟨Nat.zero_le _,fun _=>rfl,fun h=>absurd h (Nat.lt_irrefl _),fun j hj=>absurd hj (Nat.not_lt_zero _)⟩ ?_
        rintro s hp
        obtain ⟨i,last⟩:=s
        obtain ⟨hi,hlast0,hlast,hoff⟩:=hp
        simp only at hi hlast0 hlast hoff
        refine .seq (.sr (.move ?_))
        refine .fa ?_ fo34_4
        refine .ld ?_ sc32
        refine .lenS ?_ sl32
        refine .lss ?_
        refine .z ?_
        refine .cond rfl (fun hd=>?_) (fun hd=>?_)
        ·have hil:i < b.recs.length:=by have h:(i:Int) < ((b.recs.length:Nat):Int):=of_decide_eq_true hd;omega
         obtain ⟨r,hr⟩:∃ r,b.recs[i]?=some r:=⟨_,List.getElem?_eq_getElem hil⟩
         have hoi:=offAt_of hr
         refine .skip (.next (.seq (.block (.sr ?_))))
         refine .fa ?_ fo34_4
         refine .ld ?_ sc32
         refine .move ?_
         refine .idx ?_ so32
         refine .ldAR (i:=i * 6) (us:=r.v) ?_ agg66 hR (flat_at Rc.v_len _ _ _ hr) (flat_fit Rc.v_len hil)
         refine .alloc z66 fun b5=>?_
         refine .stV ?_ agg66
         refine .z (.seq (.sr ?_))
         refine .fa ?_ fo66_5
         refine .ld ?_ sc3
         refine .move ?_
         refine .leq ?_
         refine .move ?_
         refine .split (t:=59) rfl (fun h8=>?_) (fun h8=>?_)
         ·have hle:r.off<=last:=of_decide_eq_true h8
          have hfin:(1:Int)=batE b:=by
           rcases Nat.eq_zero_or_pos i with h0 | h0
           ·subst h0
            exact batE_neg hr (by have:=hlast0 rfl;omega)
           ·refine batE_offs (offs_row hil ?_).symm
            unfold offRow
            rw [hoi,show decide ((0:Int) < ((i:Nat):Int))=true from decide_eq_true (by omega),show decide (r.off<=offAt b (i - 1))=true from decide_eq_true (by rw [<- hlast h0];exact hle)]
            simp
          refine .gF ?_
          refine .gF ?_
          refine .gF ?_
          refine .gF ?_
          refine .gF ?_
          refine .pickT ?_
          refine .z ?_
          refine .condT rfl rfl ?_
          refine .sr (.assign (.z ?_))
          refine .ret (.thenRet (.blockRet (.thenRet (.thenRet (.blockRet (.thenRet (?_)))))))
          exact .ret1 (h1:=.tmp (t:=2) rfl) ⟨_,⟨congrArg (Value.int .i64) hfin,rfl⟩,Am.auto⟩
         ·have hgt:¬ r.off<=last:=of_decide_eq_false h8
          refine .gT ?_
          refine .fa ?_ fo66_5
          refine .gT ?_
          refine .ld ?_ sc3
          refine .gT ?_
          refine .fa ?_ fo34_1
          refine .gT ?_
          refine .ld ?_ sc3
          refine .gT ?_
          refine .geq ?_
          refine .pickF ?_
          refine .z ?_
          refine .cond rfl (fun h9=>?_) (fun h9=>?_)
          ·have hge:b.span<=r.off:=of_decide_eq_true h9
           have hfin:(1:Int)=batE b:=by
            refine batE_offs (offs_row hil ?_).symm
            unfold offRow
            rw [hoi,show decide (b.span<=r.off)=true from decide_eq_true hge]
            simp
           refine .sr (.assign (.z ?_))
           refine .ret (.thenRet (.blockRet (.thenRet (.thenRet (.blockRet (.thenRet (?_)))))))
           exact .ret1 (h1:=.tmp (t:=2) rfl) ⟨_,⟨congrArg (Value.int .i64) hfin,rfl⟩,Am.auto⟩
          ·have hlt:¬ b.span<=r.off:=of_decide_eq_false h9
           refine .skip (.next (.region ?_))
           refine .fa ?_ fo66_5
           refine .ld ?_ sc3
           refine .assign (.nil (.blockNormal (.next (.region (.move ?_)))))
           refine .add ?_
           refine .assign (.nil ?_)
           exact .back (i+1,r.off) ⟨hil,fun h=>absurd h (Nat.succ_ne_zero _),fun _=>by show r.off=offAt b (i+1 - 1);rw [Nat.add_sub_cancel];exact hoi.symm,fun j hj=>if h:j < i then hoff j h else (by
            have hji:j=i:=by have:j < i+1:=hj;omega
            subst hji
            unfold offRow
            rw [hoi,show decide (b.span<=r.off)=false from decide_eq_false hlt]
            rcases Nat.eq_zero_or_pos j with h0 | h0
            ·subst h0;simp
            ·rw [show decide (r.off<=offAt b (j - 1))=false from decide_eq_false (by rw [<- hlast h0];exact hgt)];simp)⟩ (show b.recs.length - (i+1) < b.recs.length - i by omega)
        ·have hge:i=b.recs.length:=by have h:¬ (i:Int) < ((b.recs.length:Nat):Int):=of_decide_eq_false hd;omega
         subst hge
         have ho:offsOk b=true:=(offs_all hhead hoff).symm
         refine .exit (.thenExit (.thenExit (.blockExit (?_))))
         refine .next (.sr (.assign (.z (.seq (.sr (.assign (.z (.block ?_))))))))
         refine .loopA (σ:=Nat×Nat) (fun s=>[(1,.pointer (some ⟨b1,0,none⟩)),(6,.int .i64 ((s.2:Nat):Int)),(7,.int .i64 ((s.1:Nat):Int))]) (fun _=>[pt b1 (.cells #[.int .i64 b.base,.int .i64 b.span,.int .i64 b.prod,.int .i64 b.seq,.slice (some ⟨ab,ao,none⟩) b.recs.length c] 34 (0,0)),R]++F) (fun s=>s.1<=b.recs.length/\s.2=sizK (b.recs.take s.1)/\∀ j x,j < s.1->b.recs[j]?=some x->ckE x=0) (fun s=>b.recs.length - s.1) (0,0) ⟨Nat.zero_le _,rfl,fun j x hj=>absurd hj (Nat.not_lt_zero _)⟩ ?_
         rintro s hp
         obtain ⟨i,m⟩:=s
         obtain ⟨hi,hm,hck⟩:=hp
         simp only at hi hm hck
         refine .seq (.sr (.move ?_))
         refine .fa ?_ fo34_4
         refine .ld ?_ sc32
         refine .lenS ?_ sl32
         refine .lss ?_
         refine .z ?_
         refine .cond rfl (fun hd2=>?_) (fun hd2=>?_)
         ·have hil:i < b.recs.length:=by have h:(i:Int) < ((b.recs.length:Nat):Int):=of_decide_eq_true hd2;omega
          obtain ⟨r,hr⟩:∃ r,b.recs[i]?=some r:=⟨_,List.getElem?_eq_getElem hil⟩
          refine .skip (.next (.seq (.block (.sr ?_))))
          refine .fa ?_ fo34_4
          refine .ld ?_ sc32
          refine .move ?_
          refine .idx ?_ so32
          refine .ldAR (i:=i * 6) (us:=r.v) ?_ agg66 hR (flat_at Rc.v_len _ _ _ hr) (flat_fit Rc.v_len hil)
          refine .call (hc:=Tryz.call116) (sp:=refCheck (r:=r)) (h:=?_)
          rintro _ _ ⟨rfl,rfl⟩
          refine .assign (.z (.seq (.sr (.move ?_))))
          refine .nei ?_
          refine .z ?_
          refine .cond rfl (fun hq=>?_) (fun hq=>?_)
          ·have hne:ckE r≠0:=by simpa using hq
           have hfb:=firstBad_at hr (fun j x hj hx=>hck j x hj hx) hne
           have hfin:ckE r=batE b:=by rw [<- batE_bad ho (by rw [hfb];exact hne),hfb]
           refine .sr (.move (.assign (.z ?_)))
           refine .ret (.thenRet (.blockRet (.thenRet (.thenRet (.blockRet (.thenRet (?_)))))))
           exact .ret1 (h1:=.tmp (t:=2) rfl) ⟨_,⟨congrArg (Value.int .i64) hfin,rfl⟩,Am.auto⟩
          ·have h0:ckE r=0:=by simpa using hq
           have hkv:=(ckE_ok h0).1
           have hml:m<=4000 * i:=by
            have:=(sizK_le (f:=0) (l:=b.recs.take i) fun x hx=>by
             obtain ⟨j,hj,hjx⟩:=List.getElem_of_mem hx
             have hj2:j < i:=by rw [List.length_take] at hj;omega
             exact hck j x hj2 (by rw [<- hjx,List.getElem_take,List.getElem?_eq_getElem])).2
            rw [<- hm,List.length_take] at this
            omega
           have hk1:b.rv[i * 6+1]?=some (sv r.key):=by
            have h1:=flat_at Rc.v_len _ _ _ hr
            have h2:(((b.recs.flatMap Rc.v).drop (i * 6)).take 6)[1]?=some (sv r.key):=by rw [h1];rfl
            rw [List.getElem?_take,if_pos (by decide),List.getElem?_drop] at h2
            exact h2
           have hk3:b.rv[i * 6+3]?=some (sv r.val):=by
            have h1:=flat_at Rc.v_len _ _ _ hr
            have h2:(((b.recs.flatMap Rc.v).drop (i * 6)).take 6)[3]?=some (sv r.val):=by rw [h1];rfl
            rw [List.getElem?_take,if_pos (by decide),List.getElem?_drop] at h2
            exact h2
           refine .skip (.next ?_)
           refine .dr ([pt b1 (.cells #[.int .i64 b.base,.int .i64 b.span,.int .i64 b.prod,.int .i64 b.seq,.slice (some ⟨ab,ao,none⟩) b.recs.length c] 34 (0,0)),R]) [] 18 mixed .autoJ ?_
           refine .tk 0 rfl .move ?_
           refine .tk 1 rfl (.fa fo34_4) ?_
           refine .tk 2 rfl (.ld sc32) ?_
           refine .tk 3 rfl .move ?_
           refine .tk 4 rfl (.idx so32) ?_
           refine .tk 5 rfl ((Qt.fa fo66_1).eq (congrArg (fun z=>Value.pointer (some ⟨ab,z,none⟩)) (show ao+i * 6+1=ao+(i * 6+1) by omega))) ?_
           refine .tk 6 rfl (Qt.ldR (i:=i * 6+1) sc9 hR hk1) ?_
           refine .tk 7 rfl (.lenT _  st9) ?_
           refine .tk 8 rfl .add ?_
           refine .tk 9 rfl (.fa fo34_4) ?_
           refine .tk 10 rfl (.ld sc32) ?_
           refine .tk 11 rfl .move ?_
           refine .tk 12 rfl (.idx so32) ?_
           refine .tk 13 rfl ((Qt.fa fo66_3).eq (congrArg (fun z=>Value.pointer (some ⟨ab,z,none⟩)) (show ao+i * 6+3=ao+(i * 6+3) by omega))) ?_
           refine .tk 14 rfl (Qt.ldR (i:=i * 6+3) sc9 hR hk3) ?_
           refine .tk 15 rfl (.lenT _  st9) ?_
           refine .tk 16 rfl .add ?_
           refine .tk 17 rfl .assign ?_
           refine .fin ?_
           refine .blockNormal (.next (.region (.move ?_)))
           refine .add ?_
           refine .assign (.nil ?_)
           exact .back (i+1,m+r.key.length+r.val.length) ⟨hil,by show m+r.key.length+r.val.length=sizK (b.recs.take (i+1));rw [List.take_add_one,hr,sizK_append,<-hm];simp [sizK];omega,fun j x hj hx=>if h:j < i then hck j x h hx else (by rw [show j=i by have:j < i+1:=hj;omega,hr] at hx;injection hx with hx;rw [<- hx];exact h0)⟩ (show b.recs.length - (i+1) < b.recs.length - i by omega)
         ·have hge:i=b.recs.length:=by have h:¬ (i:Int) < ((b.recs.length:Nat):Int):=of_decide_eq_false hd2;omega
          subst hge
          have hall:∀ x∈b.recs,ckE x=0:=fun x hx=>by
           obtain ⟨j,hj,hjx⟩:=List.getElem_of_mem hx
           exact hck j x hj (by rw [List.getElem?_eq_getElem hj,hjx])
          have hsz:=(sizK_le (f:=firstT b) hall).1
          rw [List.take_length] at hm
          have hbl:(bodyB b).length=32+(b.recs.flatMap fun r=>encB r (firstT b)).length:=by unfold bodyB;rw [List.length_append,bodyH_len]
          have hbm:=encs_len (f:=firstT b) hall
          refine .exit (.thenExit (.thenExit (.blockExit (?_))))
          refine .next (.seq (.sr (.move ?_)))
          refine .gtr ?_
          refine .move ?_
          refine .split (t:=103) rfl (fun hb1=>?_) (fun hb1=>?_)
          ·have hb:6000 < m:=by have h:(6000:Int) < ((m:Nat):Int):=of_decide_eq_true hb1;omega
           refine .gF ?_
           refine .gF ?_
           refine .gF ?_
           refine .gF ?_
           refine .gF ?_
           refine .pickT ?_
           refine .z ?_
           refine .condT rfl rfl ?_
           refine .sr (.assign (.z ?_))
           refine .ret (.thenRet (?_))
           exact .ret1 (h1:=.tmp (t:=2) rfl) ⟨_,⟨congrArg (Value.int .i64) (batE_big ho hall (by omega)),rfl⟩,Am.auto⟩
          ·refine .gT ?_
           refine .ldA ?_ agg34
           refine .gT ?_
           refine .call (hc:=Tryz.call117) (sp:=refBody hR hpos hl hall) (h:=?_)
           rintro vb _ rfl
           refine .rowOpen (v:=vb) (hx:=fun h=>by have:=congrArg List.length h;rw [bvs_length] at this;simp only [List.length_nil] at this;omega) fun A4 c4 hv4 hR4 h41 h42=>?_
           subst hv4
           refine .gT ?_
           refine .lenS ?_ sl59
           refine .gT ?_
           refine .add ?_
           refine .gT ?_
           refine .gtr ?_
           refine .pickF ?_
           refine .z ?_
           refine .cond rfl (fun hb2=>?_) (fun hb2=>?_)
           ·have hb:6000 < (bodyB b).length+16:=by have h:(6000:Int) < (((bodyB b).length:Nat):Int)+16:=of_decide_eq_true hb2;omega
            refine .sr (.assign (.z ?_))
            refine .ret (.thenRet (?_))
            exact .ret1 (h1:=.tmp (t:=2) rfl) ⟨_,⟨congrArg (Value.int .i64) (batE_big ho hall hb),rfl⟩,Am.auto⟩
           ·have hb:¬ 6000 < (bodyB b).length+16:=by have h:¬ (6000:Int) < (((bodyB b).length:Nat):Int)+16:=of_decide_eq_false hb2;omega
            refine .skip (.next (.sr (.assign (.z ?_))))
            refine .ret (?_)
            exact .ret1 (h1:=.tmp (t:=2) rfl) ⟨_,⟨congrArg (Value.int .i64) (batE_zero ho hall hb),rfl⟩,Am.auto⟩
def reoff :Nat->List Rc->List Rc
 | _,[]=>[]
 | k,r :: l=>{ r with off:=((k:Nat):Int) } :: reoff (k+1) l
theorem reoff_len :∀ (l:List Rc) (k:Nat),(reoff k l).length=l.length
 | [],_=>rfl
 | r :: l,k=>by simp only [reoff,List.length_cons,reoff_len l]
theorem reoff_append :∀ (l m:List Rc) (k:Nat),reoff k (l++m)=reoff k l++reoff (k+l.length) m
 | [],_,_=>by simp [reoff]
 | r :: l,m,k=>by
  simp only [List.cons_append,reoff,reoff_append l m,List.length_cons]
  rw [show k+1+l.length=k+(l.length+1) by omega]
theorem reoff_take {l:List Rc} {i:Nat} {r:Rc} (h:l[i]?=some r):reoff 0 (l.take (i+1))=reoff 0 (l.take i)++[{ r with off:=((i:Nat):Int) }]:=by
 have hi:i < l.length:=(List.getElem?_eq_some_iff.1 h).1
 rw [List.take_add_one,h,Option.toList_some,reoff_append,List.length_take,show 0+min i l.length=i by omega]
 rfl
def freshB (base prod seq:Int) (l:List Rc):Bt:=⟨base,max ((l.length:Nat):Int) 1,prod,seq,reoff 0 l⟩
theorem bdBat (a s p q:Int):BuildOk Tryz.prog 34 [(0,.int .i64 a),(1,.int .i64 s),(2,.int .i64 p),(3,.int .i64 q)] #[.int .i64 a,.int .i64 s,.int .i64 p,.int .i64 q,.slice none 0 0]:=fun w=>by kernel_rfl
theorem bdBat0 :BuildOk Tryz.prog 34 [] #[.int .i64 0,.int .i64 0,.int .i64 0,.int .i64 0,.slice none 0 0]:=fun w=>by kernel_rfl
theorem bsRec1 (a b:Bool) (s t:ByteArray) (x y:Int):BuildSOk Tryz.prog 32 1 [(0,.agg #[.bool a,.string s,.bool b,.string t,.int .i64 x,.int .i64 y])] 66 #[.bool a,.string s,.bool b,.string t,.int .i64 x,.int .i64 y]:=fun w=>by kernel_rfl
theorem refFresh {R:HP} {A:Option Addr} {c:Nat} {base prod seq:Int} {l:List Rc} (hR:Reads R A (l.flatMap Rc.v)) (hl:l.length<=10000):Spec Tryz.prog 32 #[.int .i64 base,.int .i64 prod,.int .i64 seq,.slice A l.length c] [R]
  fun F v M=>(batE (freshB base prod seq l)≠0/\v=.tuple #[.agg #[.int .i64 0,.int .i64 0,.int .i64 0,.int .i64 0,.slice none 0 0],.int .i64 (batE (freshB base prod seq l))]/\M=R :: F) ∨
   (batE (freshB base prod seq l)=0/\∃ u,v=.tuple #[.agg ((freshB base prod seq l).v u).toArray,.int .i64 0]/\M=rowR 66 6 u l.length (freshB base prod seq l).rv :: R :: F):=by
 refine Spec.intro Tryz.func32 rfl rfl fun B F=>?_
 simp only [Tryz.ntmps32,List.cons_append,List.nil_append,env0,Nat.reduceAdd]
 refine .sr ?_
 refine .alloc z34 fun b8=>?_
 refine .assign (.x (.move (.move ?_)))
 refine .lenS ?_ sl32
 refine .maxI ?_
 refine .cast (d:=17) (u:=.int .i64 (max ((l.length:Nat):Int) 1)) rfl (congrArg (Value.int .i64) (by split<;>omega)) ?_
 refine .move (.move ?_)
 refine .build ?_ (bdBat _ _ _ _)
 refine .alloc z34 fun b10=>?_
 refine .stV ?_ agg34
 refine .z (.seq (.sr (.assign (.z (.block ?_)))))
 refine .emp (A:=rowR 66 6 (.slice none 0 0) 0 ((reoff 0 (l.take 0)).flatMap Rc.v)) (rowR.nil _) ?_
 refine .loopA (σ:=Nat×Value) (fun s=>[(0,.int .i64 base),(3,.slice A l.length c),(8,.pointer (some ⟨b8,0,none⟩)),(10,.pointer (some ⟨b10,0,none⟩)),(11,.int .i64 ((s.1:Nat):Int))]) (fun s=>[pt b10 (.cells #[.int .i64 base,.int .i64 (max ((l.length:Nat):Int) 1),.int .i64 prod,.int .i64 seq,s.2] 34 (0,0)),pt b8 (.cells #[.int .i64 0,.int .i64 0,.int .i64 0,.int .i64 0,.slice none 0 0] 34 (0,0)),rowR 66 6 s.2 s.1 ((reoff 0 (l.take s.1)).flatMap Rc.v),R]++F) (fun s=>s.1<=l.length) (fun s=>l.length - s.1) (0,.slice none 0 0) (Nat.zero_le _) ?_
 rintro s hs
 obtain ⟨i,u⟩:=s
 simp only at hs
 refine .seq (.sr (.move (.move ?_)))
 refine .lenS ?_ sl32
 refine .lss ?_
 refine .z ?_
 refine .cond rfl (fun hd=>?_) (fun hd=>?_)
 ·have hil:i < l.length:=by have h:(i:Int) < ((l.length:Nat):Int):=of_decide_eq_true hd;omega
  obtain ⟨r,hr⟩:∃ r,l[i]?=some r:=⟨_,List.getElem?_eq_getElem hil⟩
  obtain ⟨ab,ao,rfl⟩:∃ ab ao,A=some ⟨ab,ao,none⟩:=by
   cases A with
   | none =>
    have h0:l.flatMap Rc.v=[]:=hR
    have h1:=flat_length Rc.v_len l
    rw [h0] at h1
    simp at h1
    omega
   | some a =>
    obtain ⟨x,y,z⟩:=a
    have:z=none:=hR.1
    subst this
    exact ⟨x,y,rfl⟩
  have hstep:=reoff_take hr
  refine .skip (.next (.seq (.block (.sr (.move (.move ?_))))))
  refine .idx ?_ so32
  refine .ldAR (i:=i * 6) (us:=r.v) ?_ agg66 hR (flat_at Rc.v_len _ _ _ hr) (flat_fit Rc.v_len hil)
  refine .alloc z66 fun b12=>?_
  refine .stV ?_ agg66
  refine .x (.move ?_)
  refine .fa ?_ fo66_5
  refine .st ?_ sc3
  refine .y ?_
  refine .fa ?_ fo34_4
  refine .ld ?_ sc32
  refine .ldA ?_ agg66
  refine .buildS (fun b36=>?_) (bsRec1 _ _ _ _ _ _)
  refine .append (v:=u) (m:=1) (k:=i) (xs:=(reoff 0 (l.take i)).flatMap Rc.v) (news:=Rc.v { r with off:=((i:Nat):Int) }) so32 (by decide) (by repeat (first | exact .here | apply Rem.there | apply Repl.there | apply Mem.there)) (Reads.pt (cs:=(Rc.v { r with off:=((i:Nat):Int) }).toArray)) (by repeat (first | exact .here | apply Rem.there | apply Repl.there | apply Mem.there)) rfl (by simp [Rc.v,Value.single,sv]) (by unfold maxLen;omega) (by omega) ⟨_,z66,rfl⟩ (fun v' hv'=>?_)
  refine .rowOpen (v:=v') (hx:=fun h=>by have:=congrArg List.length h;simp [Rc.v] at this) fun A4 c4 hv4 hR4 h41 h42=>?_
  subst hv4
  refine .fa ?_ fo34_4
  refine .st ?_ sc32
  refine .nil (.blockNormal (.next (.region (.move ?_))))
  refine .add ?_
  refine .assign (.nil ?_)
  exact .back (i+1,.slice (some A4) (i+1) c4) (show i+1<=l.length from hil) (show l.length - (i+1) < l.length - i by omega) (hI:=by rw [show ((i+1,Value.slice (some A4) (i+1) c4):Nat×Value).1=i+1 from rfl,hstep,List.flatMap_append,List.flatMap_singleton];exact Am.auto)
 ·have hge:i=l.length:=by have h:¬ (i:Int) < ((l.length:Nat):Int):=of_decide_eq_false hd;omega
  subst hge
  rw [List.take_length]
  have hn:(freshB base prod seq l).recs.length=l.length:=reoff_len l 0
  refine .fact (rowR_shape (el:=66) (size:=6) (k:=l.length) (v:=u) (xs:=(reoff 0 l).flatMap Rc.v)) fun ⟨A5,c5,hv5,hR5,_,_,_⟩=>?_
  rw [<- hn] at hv5
  subst hv5
  refine .exit (.thenExit (.thenExit (.blockExit (?_))))
  refine .next (.sr ?_)
  refine .ldA ?_ agg34
  refine .call (hc:=Tryz.call59) (sp:=refCheckBatch (b:=freshB base prod seq l) hR5 (by rw [hn];omega)) (h:=?_)
  rintro _ _ ⟨rfl,rfl⟩
  refine .assign (.z (.seq (.sr (.move ?_))))
  refine .nei ?_
  refine .z ?_
  refine .cond rfl (fun hq=>?_) (fun hq=>?_)
  ·have hne:batE (freshB base prod seq l)≠0:=by simpa using hq
   refine .sr ?_
   refine .build ?_ bdBat0
   refine .move ?_
   refine .stV ?_ agg34
   refine .assign (.z ?_)
   refine .ret (.thenRet (?_))
   exact .ret2 (h2:=.tmp (t:=9) rfl) ⟨_,.inl ⟨hne,rfl,rfl⟩,Am.auto⟩
  ·have h0:batE (freshB base prod seq l)=0:=by simpa using hq
   refine .skip (.next (.sr ?_))
   refine .ldA ?_ agg34
   refine .stV ?_ agg34
   refine .assign (.z ?_)
   refine .ret (?_)
   exact .ret2 (h2:=.tmp (t:=9) rfl) ⟨_,.inr ⟨h0,_,rfl,rfl⟩,Am.auto⟩
def recO (t:Int) (i:Nat):Rc:=⟨false,[],true,[118],t+((i:Nat):Int),0⟩
def recsO (t:Int) (n:Nat):List Rc:=(List.range n).map (recO t)
theorem recsO_len (t:Int) (n:Nat):(recsO t n).length=n:=by simp [recsO]
theorem recsO_succ (t:Int) (n:Nat):recsO t (n+1)=recsO t n++[recO t n]:=by simp [recsO,List.range_succ]
def oneB (base:Int) (n:Nat) (t:Int):Bt:=freshB base 0 0 (recsO t n)
theorem zigN_0 :zigN 0=0:=by decide +kernel
theorem zigN_1 :zigN 1=2:=by decide +kernel
theorem vint1 {n:Nat} (h:n<=127):(vint n).length=1:=by rw [vint_low (by omega)];rfl
def recP (t:Int) (i:Nat):Rc:=⟨false,[],true,[118],t+((i:Nat):Int),((i:Nat):Int)⟩
theorem recP_ck {t:Int} {i:Nat} (ht:0<=t/\t<=1125899906842000) (hi:i<=50):ckE (recP t i)=0:=by
 refine (ck0 ?_ ?_).symm
 ·have h1:¬ t+((i:Nat):Int) < 0:=by omega
  have h2:¬ 1125899906842624 < t+((i:Nat):Int):=by omega
  have h3:¬ ((i:Nat):Int) < 0:=by omega
  have h4:¬ 100<=((i:Nat):Int):=by omega
  simp [Rc.odd,recP,h1,h2,h3,h4]
 ·rfl
theorem encP_len {t:Int} {i:Nat} (hi:i=0 ∨ i=1):(encB (recP t i) t).length=5:=by
 have h0:(recP t i).time - t=((i:Nat):Int):=by show t+((i:Nat):Int) - t=_;omega
 have h1:(vint (recP t i).off.toNat).length=1:=vint1 (by show (((i:Nat):Int)).toNat<=127;omega)
 have h2:(vint (zigN ((recP t i).time - t))).length=1:=by
  rw [h0]
  rcases hi with rfl | rfl
  ·exact vint1 (by rw [show (((0:Nat):Int))=0 from rfl,zigN_0];decide)
  ·exact vint1 (by rw [show (((1:Nat):Int))=1 from rfl,zigN_1];decide)
 have h3:(vint ([118]:Bytes).length).length=1:=vint1 (by decide)
 unfold encB flB txtB
 simp only [List.length_append,h1,h2]
 simp [recP,vint1 (n:=1) (by decide)]
theorem oneB_1 (base t:Int):oneB base 1 t=⟨base,1,0,0,[recP t 0]⟩:=rfl
theorem oneB_2 (base t:Int):oneB base 2 t=⟨base,2,0,0,[recP t 0,recP t 1]⟩:=rfl
theorem firstP (t:Int):(recP t 0).time=t:=by show t+((0:Nat):Int)=t;omega
theorem oneB_ok {base t:Int} {n:Nat} (hn:n=1 ∨ n=2) (hb:0<=base/\base<=1125899906842624) (ht:0<=t/\t<=1125899906842000):batE (oneB base n t)=0/\(batB (oneB base n t)).length=48+5 * n:=by
 have hb1:¬ base < 0:=by omega
 have hb2:¬ 1125899906842624 < base:=by omega
 have key:offsOk (oneB base n t)=true/\(∀ r∈(oneB base n t).recs,ckE r=0)/\(bodyB (oneB base n t)).length=32+5 * n:=by
  rcases hn with rfl | rfl
  ·rw [oneB_1]
   have hf:firstT ⟨base,1,0,0,[recP t 0]⟩=t:=firstP t
   refine ⟨(offs_all (by simp [headBad,hb1,hb2]) fun j hj=>?_).symm,fun r hr=>?_,?_⟩
   ·have:j=0:=by simpa using hj
    subst this
    simp [offRow,offAt,recP]
   ·rw [show r=recP t 0 by simpa using hr];exact recP_ck ht (by decide)
   ·unfold bodyB
    rw [List.length_append,bodyH_len,hf]
    simp only [List.flatMap_cons,List.flatMap_nil,List.append_nil,encP_len (t:=t) (i:=0) (.inl rfl)]
  ·rw [oneB_2]
   have hf:firstT ⟨base,2,0,0,[recP t 0,recP t 1]⟩=t:=firstP t
   refine ⟨(offs_all (by simp [headBad,hb1,hb2]) fun j hj=>?_).symm,fun r hr=>?_,?_⟩
   ·have:j=0 ∨ j=1:=by have:j < 2:=hj;omega
    rcases this with rfl | rfl<;>simp [offRow,offAt,recP]
   ·have:r=recP t 0 ∨ r=recP t 1:=by simpa using hr
    rcases this with rfl | rfl
    ·exact recP_ck ht (by decide)
    ·exact recP_ck ht (by decide)
   ·unfold bodyB
    rw [List.length_append,bodyH_len,hf]
    simp only [List.flatMap_cons,List.flatMap_nil,List.append_nil,List.length_append,encP_len (t:=t) (i:=0) (.inl rfl),encP_len (t:=t) (i:=1) (.inr rfl)]
 obtain ⟨h1,h2,h3⟩:=key
 exact ⟨(batE_zero h1 h2 (by rw [h3];omega)).symm,by rw [batB_len,<-body_raw,h3];omega⟩
theorem bdRecO (x:Int):BuildOk Tryz.prog 66 [(2,.bool true),(3,.string ⟨#[118]⟩),(4,.int .i64 x)] #[.bool false,.string ⟨#[]⟩,.bool true,.string ⟨#[118]⟩,.int .i64 x,.int .i64 0]:=fun w=>by kernel_rfl
theorem lawOne {base t:Int} {n:Nat} (hn:n=1 ∨ n=2) (hb:0<=base/\base<=1125899906842624) (ht:0<=t/\t<=1125899906842000):Spec Tryz.prog 12 #[.int .i64 base,.int .i64 (n:Int),.int .i64 t] []
  fun F v M=>∃ A c,v=.agg ((oneB base n t).v (.slice (some A) n c)).toArray/\M=rowR 66 6 (.slice (some A) n c) n (oneB base n t).rv :: F:=by
 refine Spec.intro Tryz.func12 rfl rfl fun B F=>?_
 simp only [Tryz.ntmps12,List.cons_append,List.nil_append,env0,Nat.reduceAdd]
 have hn2:n<=2:=by omega
 refine .emp (A:=rowR 66 6 (.slice none 0 0) 0 ((recsO t 0).flatMap Rc.v)) (rowR.nil _) ?_
 refine .sr ?_
 refine .alloc z34 fun b6=>?_
 refine .x (.assign (.z (.seq (.sr (.assign (.z (.block ?_)))))))
 refine .loopA (σ:=Nat×Value) (fun s=>[(0,.int .i64 base),(1,.int .i64 ((n:Nat):Int)),(2,.int .i64 t),(6,.pointer (some ⟨b6,0,none⟩)),(7,s.2),(8,.int .i64 ((s.1:Nat):Int))]) (fun s=>[pt b6 (.cells #[.int .i64 0,.int .i64 0,.int .i64 0,.int .i64 0,.slice none 0 0] 34 (0,0)),rowR 66 6 s.2 s.1 ((recsO t s.1).flatMap Rc.v)]++F) (fun s=>s.1<=n) (fun s=>n - s.1) (0,.slice none 0 0) (Nat.zero_le _) ?_
 rintro s hs
 obtain ⟨i,u⟩:=s
 simp only at hs
 refine .seq (.sr (.move (.move ?_)))
 refine .lss ?_
 refine .z ?_
 refine .cond rfl (fun hd=>?_) (fun hd=>?_)
 ·have hil:i < n:=by have h:(i:Int) < ((n:Nat):Int):=of_decide_eq_true hd;omega
  refine .skip (.next (.seq (.block (.region (.move (.move (.move ?_)))))))
  refine .add ?_
  refine .build ?_ (bdRecO _)
  refine .buildS (fun b21=>?_) (bsRec1 _ _ _ _ _ _)
  refine .append (v:=u) (m:=1) (k:=i) (xs:=(recsO t i).flatMap Rc.v) (news:=Rc.v (recO t i)) so32 (by decide) (by repeat (first | exact .here | apply Rem.there | apply Repl.there | apply Mem.there)) (Reads.pt (cs:=(Rc.v (recO t i)).toArray)) (by repeat (first | exact .here | apply Rem.there | apply Repl.there | apply Mem.there)) rfl (by simp [Rc.v,recO,Value.single,sv]) (by unfold maxLen;omega) (by omega) ⟨_,z66,rfl⟩ (fun v' hv'=>?_)
  refine .assign (.nil (.blockNormal (.next (.region (.move ?_)))))
  refine .add ?_
  refine .assign (.nil ?_)
  exact .back (i+1,v') (show i+1<=n from hil) (show n - (i+1) < n - i by omega) (hI:=by rw [show ((i+1,v'):Nat×Value).1=i+1 from rfl,recsO_succ,List.flatMap_append,List.flatMap_singleton];exact Am.auto)
 ·have hge:i=n:=by have h:¬ (i:Int) < ((n:Nat):Int):=of_decide_eq_false hd;omega
  subst hge
  have hrl:=recsO_len t i
  have hok:=(oneB_ok hn hb ht).1
  refine .fact (rowR_shape (el:=66) (size:=6) (k:=i) (v:=u) (xs:=(recsO t i).flatMap Rc.v)) fun ⟨A5,c5,hv5,hR5,_,_,_⟩=>?_
  rw [<- hrl] at hv5
  subst hv5
  refine .exit (.thenExit (.thenExit (.blockExit (?_))))
  refine .next (.sr (.move (.move ?_)))
  refine .call (hc:=Tryz.call32) (sp:=refFresh (base:=base) (prod:=0) (seq:=0) (l:=recsO t i) hR5 (by omega)) (h:=?_)
  rintro _ _ (⟨h0,_,_⟩ | ⟨_,uf,rfl,rfl⟩)
  ·exact absurd hok h0
  rw [hrl]
  refine .rowOpen (v:=uf) (hx:=fun h=>by have h1:=congrArg List.length h;have h2:=flat_length Rc.v_len (freshB base 0 0 (recsO t i)).recs;rw [show (freshB base 0 0 (recsO t i)).rv=(freshB base 0 0 (recsO t i)).recs.flatMap Rc.v from rfl,h2,show (freshB base 0 0 (recsO t i)).recs.length=i from (reoff_len _ 0).trans hrl] at h1;simp only [List.length_nil] at h1;omega) fun A6 c6 hv6 hR6 _ _=>?_
  subst hv6
  refine .move ?_
  refine .extract ?_
  refine .extract ?_
  refine .alloc z34 fun b9=>?_
  refine .stV ?_ agg34
  refine .assign (.x ?_)
  refine .ldA ?_ agg34
  refine .stV ?_ agg34
  refine .z ?_
  refine .ret (?_)
  exact .ret1 ⟨_,⟨A6,c6,rfl,rfl⟩,Am.auto⟩
theorem fo207_0 :fieldOk Tryz.prog 207 0 0=true:=by kernel_rfl
theorem fo207_1 :fieldOk Tryz.prog 207 1 1=true:=by kernel_rfl
theorem vint_at :∀ (i n:Nat),i < (vint n).length->(vint n)[i]?=some (if 127 < n / 128 ^ i then UInt8.ofNat (n / 128 ^ i % 128+128) else UInt8.ofNat (n / 128 ^ i))/\(127 < n / 128 ^ i ↔ i+1 < (vint n).length)/\(i=0 ∨ 1<=n / 128 ^ i):=by
 intro i
 induction i with
 | zero =>
  intro n h
  simp only [Nat.pow_zero,Nat.div_one]
  by_cases hb:127 < n
  ·rw [if_pos hb,vint_big hb]
   have:=vint_pos (n / 128)
   exact ⟨rfl,⟨fun _=>by rw [List.length_cons];omega,fun _=>hb⟩,.inl trivial⟩
  ·rw [if_neg hb,vint_low hb]
   exact ⟨rfl,⟨fun h=>absurd h hb,fun h=>by simp at h⟩,.inl trivial⟩
 | succ i ih =>
  intro n h
  have hb:127 < n:=by
   by_cases hb:127 < n
   ·exact hb
   ·rw [vint_low hb] at h;simp at h
  have e:n / 128 ^ (i+1)=n / 128 / 128 ^ i:=by rw [Nat.pow_succ,Nat.mul_comm,Nat.div_div_eq_div_mul]
  rw [vint_big hb,List.length_cons] at h ⊢
  obtain ⟨h1,h2,h3⟩:=ih (n / 128) (by omega)
  rw [e,List.getElem?_cons_succ]
  refine ⟨h1,by rw [h2];omega,.inr ?_⟩
  rcases h3 with h3 | h3
  ·subst h3
   simp only [Nat.pow_zero,Nat.div_one]
   omega
  ·exact h3
def vbyte (m:Nat):Nat:=if 127 < m then m % 128+128 else m
theorem vbyte_lt (m:Nat):vbyte m < 256:=by unfold vbyte;split<;>omega
theorem vbyte_mod (m:Nat):vbyte m % 128=m % 128:=by unfold vbyte;split<;>omega
theorem vbyte_big (m:Nat):vbyte m < 128 ↔ ¬ 127 < m:=by unfold vbyte;split<;>omega
theorem vint_cell {i n:Nat} {rest:Bytes} (h:i < (vint n).length):(bvs (vint n++rest))[i]?=some (.int .u8 ((vbyte (n / 128 ^ i):Nat):Int)):=by
 have h1:=(vint_at i n h).1
 unfold bvs
 rw [List.getElem?_map,List.getElem?_append_left h,h1]
 show some (bv _)=_
 unfold bv vbyte
 have:=Nat.mod_lt (n / 128 ^ i) (show 0 < 128 by decide)
 split
 ·rw [UInt8.toNat_ofNat',Nat.mod_eq_of_lt (by omega)]
 ·rw [UInt8.toNat_ofNat',Nat.mod_eq_of_lt (by omega)]
theorem u8and127_fin :∀ m:Fin 256,band .u8 ((m.val:Nat):Int) 127=((m.val % 128:Nat):Int):=by decide +kernel
theorem vbyte_and (m:Nat):band .u8 ((vbyte m:Nat):Int) 127=((m % 128:Nat):Int):=by
 rw [u8and127_fin ⟨vbyte m,vbyte_lt m⟩,vbyte_mod]
theorem p128 {i:Nat} (h:i<=7):128 ^ i<=562949953421312:=Nat.le_trans (Nat.pow_le_pow_right (by decide) h) (by decide)
theorem shl7 {a i:Nat} (ha:a < 128) (hi:i<=7):IntKind.u64.wrap (((a:Nat):Int) * 2 ^ (min (7 * ((i:Nat):Int)).toNat IntKind.u64.bits))=((a * 128 ^ i:Nat):Int):=by
 have h1:min (7 * ((i:Nat):Int)).toNat IntKind.u64.bits=7 * i:=by simp only [IntKind.bits];omega
 have h2:=p128 hi
 have h3:a * 128 ^ i<=127 * 562949953421312:=Nat.mul_le_mul (by omega) h2
 rw [h1,Int.pow_mul,show ((a:Nat):Int) * ((2:Int) ^ 7) ^ i=((a * 128 ^ i:Nat):Int) by rw [Int.natCast_mul,Int.natCast_pow];rfl,IntWalk.u64_in _ (by omega)]
theorem bor64 {a b:Nat} (ha:a < 2 ^ 64) (hb:b < 2 ^ 64):bor .u64 (a:Int) (b:Int)=((a ||| b:Nat):Int):=by
 have h:bor .u64 (a:Int) (b:Int)=IntKind.u64.wrap ((a ||| b:Nat):Int):=by
  unfold bor
  congr 2
  rw [BitVec.toNat_or]
  rw [show IntKind.u64.bits=64 from rfl,ofInt_nat64 a ha,ofInt_nat64 b hb]
 have:a ||| b < 2 ^ 64:=Nat.or_lt_two_pow ha hb
 rw [h,IntWalk.u64_in _ (by omega)]
theorem vor {n i:Nat} (hi:i<=7):bor .u64 ((n % 128 ^ i:Nat):Int) ((n / 128 ^ i % 128 * 128 ^ i:Nat):Int)=((n % 128 ^ (i+1):Nat):Int):=by
 have h2:=p128 hi
 have hp:0 < 128 ^ i:=Nat.pow_pos (by decide)
 have h1:=Nat.mod_lt n hp
 have h3:=Nat.mod_lt (n / 128 ^ i) (show 0 < 128 by decide)
 have h4:n / 128 ^ i % 128 * 128 ^ i<=127 * 562949953421312:=Nat.mul_le_mul (by omega) h2
 rw [bor64 (by omega) (by omega),Nat.mod_pow_succ,Nat.or_comm]
 have e:128 ^ i=2 ^ (7 * i):=by rw [Nat.pow_mul]
 have h5:=Nat.two_pow_add_eq_or_of_lt (i:=7 * i) (b:=n % 128 ^ i) (by rw [<- e];exact h1) (n / 128 ^ i % 128)
 rw [<- e] at h5
 rw [Nat.mul_comm (n / 128 ^ i % 128) (128 ^ i),<-h5,Nat.add_comm]
theorem vint_len8 {n:Nat} (h:n < 72057594037927936):(vint n).length<=8:=vint_len 7 n (by omega)
theorem slc_at {m c ab ao p:Nat} (h:p < c):Value.slice (if c=((p:Nat):Int).toNat then some ⟨ab,ao,none⟩ else some ⟨ab,ao+((p:Nat):Int).toNat * 1,none⟩) (m - ((p:Nat):Int).toNat) (c - ((p:Nat):Int).toNat)=.slice (some ⟨ab,ao+p,none⟩) (m - p) (c - p):=by
 rw [Int.toNat_natCast,if_neg (by omega),Nat.mul_one]
theorem bitsUnvarint {R:HP} {A:Addr} {m c n:Nat} {xs rest:Bytes} (hR:Reads R (some A) (bvs xs)) (hm:xs.length=m) (hxs:xs=vint n++rest) (hn:n < 72057594037927936) (hl:m<=1073741824):Spec Tryz.prog 174 #[.slice (some A) m c] [R]
  fun F v M=>v=.tuple #[.int .u64 ((n:Nat):Int),.int .i64 (((vint n).length:Nat):Int)]/\M=R :: F:=by
 refine Spec.intro Tryz.func174 rfl rfl fun B F=>?_
 simp only [Tryz.ntmps174,List.cons_append,List.nil_append,env0,Nat.reduceAdd]
 obtain ⟨ab,ao,asp⟩:=A
 have hsp:asp=none:=hR.1
 subst hsp
 have h8:=vint_len8 hn
 have hpos:=vint_pos n
 have hml:(vint n).length<=m:=by rw [<- hm,hxs,List.length_append];omega
 rw [hxs] at hR
 refine .sr (.assign (.assign (.z (.seq (.sr (.move ?_))))))
 refine .lenS ?_ sl59
 refine .move (.z (.block ?_))
 refine .cast (d:=2) (u:=.int .u64 ((n % 128 ^ 0:Nat):Int)) rfl (by rw [Nat.pow_zero,Nat.mod_one];rfl) ?_
 refine .loopA (σ:=Nat) (fun i=>[(2,.int .u64 ((n % 128 ^ i:Nat):Int)),(6,.slice (some ⟨ab,ao,none⟩) m c),(7,.int .i64 ((m:Nat):Int)),(8,.int .i64 ((i:Nat):Int))]) (fun _=>R :: F) (fun i=>i < (vint n).length) (fun i=>(vint n).length - i) 0 (by omega) ?_
 rintro i hi
 refine .sr ?_
 refine .lss ?_
 refine .z (.seq ?_)
 obtain ⟨hx1,hx2,hx3⟩:=vint_at i n hi
 have hcell:=vint_cell (rest:=rest) hi
 have hlt:=vbyte_lt (n / 128 ^ i)
 have hbig:=vbyte_big (n / 128 ^ i)
 have hi7:i<=7:=by have:i < (vint n).length:=hi;omega
 have hilt:i < m:=by have:i < (vint n).length:=hi;omega
 by_cases h0:0 < i
 ·have hv1:1<=vbyte (n / 128 ^ i):=by
   rcases hx3 with h | h
   ·omega
   ·unfold vbyte;split<;>omega
  by_cases hl:127 < n / 128 ^ i
  ·have hv0:128<=vbyte (n / 128 ^ i):=by omega
   refine .condT rfl (congrArg Value.bool (by first | (exact decide_eq_true (by omega)) | (exact decide_eq_false (by omega)) | (simp;done) | (simp;omega) | omega)) ?_
   refine .skip (.next (.seq (.block (.sr (.move ?_)))))
   refine .idx1 ?_ so59
   refine .ldR (i:=i) ?_ sc5 hR hcell
   refine .assign (.assign (.z (.seq (.sr (.move ?_)))))
   refine .eqi ?_
   refine .move ?_
   refine .cast (d:=15) (u:=.bool false) rfl (congrArg Value.bool (by first | (exact decide_eq_true (by omega)) | (exact decide_eq_false (by omega)) | (simp;done) | (simp;omega) | omega)) ?_
   refine .gT ?_
   refine .move ?_
   refine .gT ?_
   refine .eqi ?_
   refine .gT ?_
   refine .move ?_
   refine .cast (d:=18) (u:=.bool false) rfl (congrArg Value.bool (by first | (exact decide_eq_true (by omega)) | (exact decide_eq_false (by omega)) | (simp;done) | (simp;omega) | omega)) ?_
   refine .gF ?_
   refine .gF ?_
   refine .gT ?_
   refine .pickF ?_
   refine .pickF ?_
   refine .move ?_
   refine .gT ?_
   refine .move ?_
   refine .gT ?_
   refine .gtr ?_
   refine .gT ?_
   refine .move ?_
   refine .cast (d:=26) (u:=.bool true) rfl (congrArg Value.bool (by first | (exact decide_eq_true (by omega)) | (exact decide_eq_false (by omega)) | (simp;done) | (simp;omega) | omega)) ?_
   refine .gT ?_
   refine .move ?_
   refine .gT ?_
   refine .eqi ?_
   refine .gT ?_
   refine .pickT ?_
   refine .pickF ?_
   refine .z ?_
   refine .condF rfl (congrArg Value.bool (by first | (exact decide_eq_true (by omega)) | (exact decide_eq_false (by omega)) | (simp;done) | (simp;omega) | omega)) ?_
   refine .skip (.next (.sr (.move (.move ?_))))
   refine .and ?_
   refine .cast (d:=33) (u:=.int .u8 ((n / 128 ^ i % 128:Nat):Int)) rfl (congrArg (Value.int .u8) (vbyte_and _)) ?_
   refine .cvt ?_ un5 un148
   refine .cast (d:=34) (u:=.int .u64 ((n / 128 ^ i % 128:Nat):Int)) rfl (congrArg (Value.int .u64) (u64_wrap0 (by have:=Nat.mod_lt (n / 128 ^ i) (show 0 < 128 by decide);omega))) ?_
   refine .move ?_
   refine .mul ?_
   refine .shl ?_
   refine .cast (d:=37) (u:=.int .u64 ((n / 128 ^ i % 128 * 128 ^ i:Nat):Int)) rfl (congrArg (Value.int .u64) (shl7 (Nat.mod_lt _ (by decide)) hi7)) ?_
   refine .or ?_
   refine .cast (d:=38) (u:=.int .u64 ((n % 128 ^ (i+1):Nat):Int)) rfl (congrArg (Value.int .u64) (vor hi7)) ?_
   refine .assign (.x (.move ?_))
   refine .lss ?_
   refine .z ?_
   refine .condF rfl (congrArg Value.bool (decide_eq_false (show ¬ ((vbyte (n / 128 ^ i):Nat):Int) < 128 from fun h=>by clear hx1 hcell;omega))) ?_
   refine .skip (.blockNormal (.next (.region ?_)))
   refine .add ?_
   refine .move (.nil ?_)
   exact .back (i+1) (hx2.1 hl) (show (vint n).length - (i+1) < (vint n).length - i by have:i < (vint n).length:=hi;omega)
  ·have hvl:vbyte (n / 128 ^ i) < 128:=by omega
   have hv1:vbyte (n / 128 ^ i)=n / 128 ^ i:=by unfold vbyte;rw [if_neg hl]
   have hlen:(vint n).length=i+1:=by have h1:i < (vint n).length:=hi;have h2:¬ i+1 < (vint n).length:=fun h=>hl (hx2.2 h);omega
   have hnm:n % 128 ^ (i+1)=n:=Nat.mod_eq_of_lt (by
    rw [Nat.pow_succ,Nat.mul_comm]
    exact Nat.lt_mul_of_div_lt (by omega) (Nat.pow_pos (by decide)))
   refine .condT rfl (congrArg Value.bool (by first | (exact decide_eq_true (by omega)) | (exact decide_eq_false (by omega)) | (simp;done) | (simp;omega) | omega)) ?_
   refine .skip (.next (.seq (.block (.sr (.move ?_)))))
   refine .idx1 ?_ so59
   refine .ldR (i:=i) ?_ sc5 hR hcell
   refine .assign (.assign (.z (.seq (.sr (.move ?_)))))
   refine .eqi ?_
   refine .move ?_
   refine .cast (d:=15) (u:=.bool false) rfl (congrArg Value.bool (by first | (exact decide_eq_true (by omega)) | (exact decide_eq_false (by omega)) | (simp;done) | (simp;omega) | omega)) ?_
   refine .gT ?_
   refine .move ?_
   refine .gT ?_
   refine .eqi ?_
   refine .gT ?_
   refine .move ?_
   refine .cast (d:=18) (u:=.bool false) rfl (congrArg Value.bool (by first | (exact decide_eq_true (by omega)) | (exact decide_eq_false (by omega)) | (simp;done) | (simp;omega) | omega)) ?_
   refine .gF ?_
   refine .gF ?_
   refine .gT ?_
   refine .pickF ?_
   refine .pickF ?_
   refine .move ?_
   refine .gT ?_
   refine .move ?_
   refine .gT ?_
   refine .gtr ?_
   refine .gT ?_
   refine .move ?_
   refine .cast (d:=26) (u:=.bool true) rfl (congrArg Value.bool (by first | (exact decide_eq_true (by omega)) | (exact decide_eq_false (by omega)) | (simp;done) | (simp;omega) | omega)) ?_
   refine .gT ?_
   refine .move ?_
   refine .gT ?_
   refine .eqi ?_
   refine .gT ?_
   refine .pickT ?_
   refine .pickF ?_
   refine .z ?_
   refine .condF rfl (congrArg Value.bool (by first | (exact decide_eq_true (by omega)) | (exact decide_eq_false (by omega)) | (simp;done) | (simp;omega) | omega)) ?_
   refine .skip (.next (.sr (.move (.move ?_))))
   refine .and ?_
   refine .cast (d:=33) (u:=.int .u8 ((n / 128 ^ i % 128:Nat):Int)) rfl (congrArg (Value.int .u8) (vbyte_and _)) ?_
   refine .cvt ?_ un5 un148
   refine .cast (d:=34) (u:=.int .u64 ((n / 128 ^ i % 128:Nat):Int)) rfl (congrArg (Value.int .u64) (u64_wrap0 (by have:=Nat.mod_lt (n / 128 ^ i) (show 0 < 128 by decide);omega))) ?_
   refine .move ?_
   refine .mul ?_
   refine .shl ?_
   refine .cast (d:=37) (u:=.int .u64 ((n / 128 ^ i % 128 * 128 ^ i:Nat):Int)) rfl (congrArg (Value.int .u64) (shl7 (Nat.mod_lt _ (by decide)) hi7)) ?_
   refine .or ?_
   refine .cast (d:=38) (u:=.int .u64 ((n % 128 ^ (i+1):Nat):Int)) rfl (congrArg (Value.int .u64) (vor hi7)) ?_
   refine .assign (.x (.move ?_))
   refine .lss ?_
   refine .z ?_
   refine .condT rfl (congrArg Value.bool (decide_eq_true (show ((vbyte (n / 128 ^ i):Nat):Int) < 128 by clear hx1 hcell;omega))) ?_
   refine .sr (.move (.move ?_))
   refine .add ?_
   refine .assign (.assign (.z ?_))
   refine .ret (.blockRet (.thenRet (.thenRet (.blockRet (.thenRet (?_))))))
   exact .ret2 (h1:=.tmp (t:=2) rfl) (h2:=.tmp (t:=3) rfl) ⟨_,⟨by rw [hnm,hlen];rfl,rfl⟩,Am.auto⟩
 ·by_cases hl:127 < n / 128 ^ i
  ·have hv0:128<=vbyte (n / 128 ^ i):=by omega
   refine .condT rfl (congrArg Value.bool (by first | (exact decide_eq_true (by omega)) | (exact decide_eq_false (by omega)) | (simp;done) | (simp;omega) | omega)) ?_
   refine .skip (.next (.seq (.block (.sr (.move ?_)))))
   refine .idx1 ?_ so59
   refine .ldR (i:=i) ?_ sc5 hR hcell
   refine .assign (.assign (.z (.seq (.sr (.move ?_)))))
   refine .eqi ?_
   refine .move ?_
   refine .cast (d:=15) (u:=.bool false) rfl (congrArg Value.bool (by first | (exact decide_eq_true (by omega)) | (exact decide_eq_false (by omega)) | (simp;done) | (simp;omega) | omega)) ?_
   refine .gT ?_
   refine .move ?_
   refine .gT ?_
   refine .eqi ?_
   refine .gT ?_
   refine .move ?_
   refine .cast (d:=18) (u:=.bool false) rfl (congrArg Value.bool (by first | (exact decide_eq_true (by omega)) | (exact decide_eq_false (by omega)) | (simp;done) | (simp;omega) | omega)) ?_
   refine .gF ?_
   refine .gF ?_
   refine .gT ?_
   refine .pickF ?_
   refine .pickF ?_
   refine .move ?_
   refine .gT ?_
   refine .move ?_
   refine .gT ?_
   refine .gtr ?_
   refine .gT ?_
   refine .move ?_
   refine .cast (d:=26) (u:=.bool false) rfl (congrArg Value.bool (by first | (exact decide_eq_true (by omega)) | (exact decide_eq_false (by omega)) | (simp;done) | (simp;omega) | omega)) ?_
   refine .gF ?_
   refine .gF ?_
   refine .gT ?_
   refine .pickF ?_
   refine .pickF ?_
   refine .z ?_
   refine .condF rfl rfl ?_
   refine .skip (.next (.sr (.move (.move ?_))))
   refine .and ?_
   refine .cast (d:=33) (u:=.int .u8 ((n / 128 ^ i % 128:Nat):Int)) rfl (congrArg (Value.int .u8) (vbyte_and _)) ?_
   refine .cvt ?_ un5 un148
   refine .cast (d:=34) (u:=.int .u64 ((n / 128 ^ i % 128:Nat):Int)) rfl (congrArg (Value.int .u64) (u64_wrap0 (by have:=Nat.mod_lt (n / 128 ^ i) (show 0 < 128 by decide);omega))) ?_
   refine .move ?_
   refine .mul ?_
   refine .shl ?_
   refine .cast (d:=37) (u:=.int .u64 ((n / 128 ^ i % 128 * 128 ^ i:Nat):Int)) rfl (congrArg (Value.int .u64) (shl7 (Nat.mod_lt _ (by decide)) hi7)) ?_
   refine .or ?_
   refine .cast (d:=38) (u:=.int .u64 ((n % 128 ^ (i+1):Nat):Int)) rfl (congrArg (Value.int .u64) (vor hi7)) ?_
   refine .assign (.x (.move ?_))
   refine .lss ?_
   refine .z ?_
   refine .condF rfl (congrArg Value.bool (decide_eq_false (show ¬ ((vbyte (n / 128 ^ i):Nat):Int) < 128 from fun h=>by clear hx1 hcell;omega))) ?_
   refine .skip (.blockNormal (.next (.region ?_)))
   refine .add ?_
   refine .move (.nil ?_)
   exact .back (i+1) (hx2.1 hl) (show (vint n).length - (i+1) < (vint n).length - i by have:i < (vint n).length:=hi;omega)
  ·have hvl:vbyte (n / 128 ^ i) < 128:=by omega
   have hv1:vbyte (n / 128 ^ i)=n / 128 ^ i:=by unfold vbyte;rw [if_neg hl]
   have hlen:(vint n).length=i+1:=by have h1:i < (vint n).length:=hi;have h2:¬ i+1 < (vint n).length:=fun h=>hl (hx2.2 h);omega
   have hnm:n % 128 ^ (i+1)=n:=Nat.mod_eq_of_lt (by
    rw [Nat.pow_succ,Nat.mul_comm]
    exact Nat.lt_mul_of_div_lt (by omega) (Nat.pow_pos (by decide)))
   refine .condT rfl (congrArg Value.bool (by first | (exact decide_eq_true (by omega)) | (exact decide_eq_false (by omega)) | (simp;done) | (simp;omega) | omega)) ?_
   refine .skip (.next (.seq (.block (.sr (.move ?_)))))
   refine .idx1 ?_ so59
   refine .ldR (i:=i) ?_ sc5 hR hcell
   refine .assign (.assign (.z (.seq (.sr (.move ?_)))))
   refine .eqi ?_
   refine .move ?_
   refine .cast (d:=15) (u:=.bool false) rfl (congrArg Value.bool (by first | (exact decide_eq_true (by omega)) | (exact decide_eq_false (by omega)) | (simp;done) | (simp;omega) | omega)) ?_
   refine .gT ?_
   refine .move ?_
   refine .gT ?_
   refine .eqi ?_
   refine .gT ?_
   refine .move ?_
   refine .cast (d:=18) (u:=.bool false) rfl (congrArg Value.bool (by first | (exact decide_eq_true (by omega)) | (exact decide_eq_false (by omega)) | (simp;done) | (simp;omega) | omega)) ?_
   refine .gF ?_
   refine .gF ?_
   refine .gT ?_
   refine .pickF ?_
   refine .pickF ?_
   refine .move ?_
   refine .gT ?_
   refine .move ?_
   refine .gT ?_
   refine .gtr ?_
   refine .gT ?_
   refine .move ?_
   refine .cast (d:=26) (u:=.bool false) rfl (congrArg Value.bool (by first | (exact decide_eq_true (by omega)) | (exact decide_eq_false (by omega)) | (simp;done) | (simp;omega) | omega)) ?_
   refine .gF ?_
   refine .gF ?_
   refine .gT ?_
   refine .pickF ?_
   refine .pickF ?_
   refine .z ?_
   refine .condF rfl rfl ?_
   refine .skip (.next (.sr (.move (.move ?_))))
   refine .and ?_
   refine .cast (d:=33) (u:=.int .u8 ((n / 128 ^ i % 128:Nat):Int)) rfl (congrArg (Value.int .u8) (vbyte_and _)) ?_
   refine .cvt ?_ un5 un148
   refine .cast (d:=34) (u:=.int .u64 ((n / 128 ^ i % 128:Nat):Int)) rfl (congrArg (Value.int .u64) (u64_wrap0 (by have:=Nat.mod_lt (n / 128 ^ i) (show 0 < 128 by decide);omega))) ?_
   refine .move ?_
   refine .mul ?_
   refine .shl ?_
   refine .cast (d:=37) (u:=.int .u64 ((n / 128 ^ i % 128 * 128 ^ i:Nat):Int)) rfl (congrArg (Value.int .u64) (shl7 (Nat.mod_lt _ (by decide)) hi7)) ?_
   refine .or ?_
   refine .cast (d:=38) (u:=.int .u64 ((n % 128 ^ (i+1):Nat):Int)) rfl (congrArg (Value.int .u64) (vor hi7)) ?_
   refine .assign (.x (.move ?_))
   refine .lss ?_
   refine .z ?_
   refine .condT rfl (congrArg Value.bool (decide_eq_true (show ((vbyte (n / 128 ^ i):Nat):Int) < 128 by clear hx1 hcell;omega))) ?_
   refine .sr (.move (.move ?_))
   refine .add ?_
   refine .assign (.assign (.z ?_))
   refine .ret (.blockRet (.thenRet (.thenRet (.blockRet (.thenRet (?_))))))
   exact .ret2 (h1:=.tmp (t:=2) rfl) (h2:=.tmp (t:=3) rfl) ⟨_,⟨by rw [hnm,hlen];rfl,rfl⟩,Am.auto⟩
theorem bxor64u {a b:Nat} (ha:a < 2 ^ 64) (hb:b < 2 ^ 64):bxor .u64 (a:Int) (b:Int)=((a ^^^ b:Nat):Int):=by
 have h:bxor .u64 (a:Int) (b:Int)=IntKind.u64.wrap ((a ^^^ b:Nat):Int):=by
  unfold bxor
  congr 2
  rw [BitVec.toNat_xor]
  rw [show IntKind.u64.bits=64 from rfl,ofInt_nat64 a ha,ofInt_nat64 b hb]
 have:a ^^^ b < 2 ^ 64:=Nat.xor_lt_two_pow ha hb
 rw [h,IntWalk.u64_in _ (by omega)]
theorem xor_ones {a:Nat} (ha:a < 2 ^ 64):a ^^^ 18446744073709551615=18446744073709551615 - a:=by
 have h:=BitVec.toNat_not (x:=BitVec.ofNat 64 a)
 rw [BitVec.toNat_ofNat,Nat.mod_eq_of_lt ha] at h
 have h2:(~~~BitVec.ofNat 64 a)=BitVec.ofNat 64 a ^^^ BitVec.allOnes 64:=BitVec.xor_allOnes.symm
 rw [h2,BitVec.toNat_xor,BitVec.toNat_ofNat,Nat.mod_eq_of_lt ha] at h
 simpa using h
theorem zigN_pos {v:Int} (h:0<=v) (h2:v < 4611686018427387904):zigN v=(2 * v).toNat:=by
 obtain ⟨a,rfl⟩:=Int.eq_ofNat_of_zero_le h
 have e1:IntKind.u64.wrap (IntKind.u64.wrap ((a:Nat):Int) * 2 ^ (min (1:Int).toNat IntKind.u64.bits))=((2 * a:Nat):Int):=by
  rw [show IntKind.u64.wrap ((a:Nat):Int)=((a:Nat):Int) from IntWalk.u64_in _ (by omega),show (2:Int) ^ (min (1:Int).toNat IntKind.u64.bits)=2 from by decide,IntWalk.u64_in _ (by omega)]
  omega
 have e2:IntKind.u64.wrap (((a:Nat):Int).fdiv (2 ^ (min (63:Int).toNat IntKind.i64.bits)))=((0:Nat):Int):=by
  rw [show (2:Int) ^ (min (63:Int).toNat IntKind.i64.bits)=9223372036854775808 from by decide,Int.fdiv_eq_ediv_of_nonneg _ (by decide),Int.ediv_eq_zero_of_lt (by omega) (by omega)]
  decide
 unfold zigN zigI
 rw [e1,e2,bxor64u (by omega) (by decide),Nat.xor_zero]
 omega
theorem zigN_neg {v:Int} (h:v < 0) (h2:-4611686018427387904<=v):zigN v=(-2 * v - 1).toNat:=by
 obtain ⟨a,ha⟩:∃ a:Nat,v=-((a:Nat):Int) - 1:=⟨(-v - 1).toNat,by omega⟩
 subst ha
 have e0:IntKind.u64.wrap (-((a:Nat):Int) - 1)=18446744073709551615 - ((a:Nat):Int):=by
  simp only [IntKind.wrap,IntKind.bits,IntKind.signed]
  simp
  omega
 have e1:IntKind.u64.wrap (IntKind.u64.wrap (-((a:Nat):Int) - 1) * 2 ^ (min (1:Int).toNat IntKind.u64.bits))=((18446744073709551614 - 2 * a:Nat):Int):=by
  rw [e0,show (2:Int) ^ (min (1:Int).toNat IntKind.u64.bits)=2 from by decide]
  simp only [IntKind.wrap,IntKind.bits,IntKind.signed]
  simp
  omega
 have e2:IntKind.u64.wrap ((-((a:Nat):Int) - 1).fdiv (2 ^ (min (63:Int).toNat IntKind.i64.bits)))=((18446744073709551615:Nat):Int):=by
  rw [show (2:Int) ^ (min (63:Int).toNat IntKind.i64.bits)=9223372036854775808 from by decide,Int.fdiv_eq_ediv_of_nonneg _ (by decide),show (-((a:Nat):Int) - 1) / 9223372036854775808=-1 by omega]
  decide
 unfold zigN zigI
 rw [e1,e2,bxor64u (by omega) (by decide),xor_ones (by omega)]
 omega
theorem zigN_small {v:Int} (h:-1125899906842624<=v/\v<=1125899906842624):zigN v < 72057594037927936:=by
 by_cases h0:0<=v
 ·rw [zigN_pos h0 (by omega)];omega
 ·rw [zigN_neg (by omega) (by omega)];omega
def zagN (u:Nat):Int:=if u % 2=0 then ((u / 2:Nat):Int) else -((u / 2:Nat):Int) - 1
theorem zag_zig {v:Int} (h:-1125899906842624<=v/\v<=1125899906842624):zagN (zigN v)=v:=by
 unfold zagN
 by_cases h0:0<=v
 ·rw [zigN_pos h0 (by omega),if_pos (by omega)];omega
 ·rw [zigN_neg (by omega) (by omega),if_neg (by omega)];omega
theorem zagX {u:Nat} (h:u < 72057594037927936):bxor .i64 ((u / 2:Nat):Int) (-((u % 2:Nat):Int))=zagN u:=by
 unfold zagN
 have hm:u % 2=0 ∨ u % 2=1:=by omega
 rcases hm with hm | hm
 ·rw [hm,if_pos rfl]
  unfold bxor
  rw [show IntKind.i64.bits=64 from rfl,show (-((0:Nat):Int))=((0:Nat):Int) from rfl,BitVec.toNat_xor,ofInt_nat64 _ (by omega),ofInt_nat64 0 (by decide),Nat.xor_zero,IntWalk.i64_in _ (by omega)]
 ·rw [hm,if_neg (by decide)]
  unfold bxor
  have e:(BitVec.ofInt 64 (-((1:Nat):Int))).toNat=18446744073709551615:=by decide
  rw [show IntKind.i64.bits=64 from rfl,BitVec.toNat_xor,ofInt_nat64 _ (by omega),e,xor_ones (by omega)]
  simp only [IntKind.wrap,IntKind.bits,IntKind.signed]
  simp
  omega
theorem and64_1 (u:Nat) (h:u < 2 ^ 64):band .u64 (u:Int) 1=((u % 2:Nat):Int):=by
 rw [show (1:Int)=((1:Nat):Int) from rfl,band_64 rfl u 1 h (by decide),Nat.and_one_is_mod,IntWalk.u64_in _ (by omega)]
theorem shr1u (m:Nat):((m:Int)).fdiv (2 ^ (min (1:Int).toNat IntKind.u64.bits))=((m / 2:Nat):Int):=by
 rw [show (2:Int) ^ (min (1:Int).toNat IntKind.u64.bits)=2 from by decide,Int.fdiv_eq_ediv_of_nonneg _ (by decide)]
 omega
abbrev rdO (ab ao m c p:Nat):Obj:=.cells #[.slice (some ⟨ab,ao,none⟩) m c,.int .i64 ((p:Nat):Int),.bool false] 207 (0,0)
theorem bvs_read {R:HP} {ab ao p:Nat} {xs:Bytes} (h:Reads R (some ⟨ab,ao,none⟩) (bvs xs)):Reads R (some ⟨ab,ao+p,none⟩) (bvs (xs.drop p)):=by
 rw [bvs_drop]
 exact h.drop p
theorem bitsZag {u:Nat} (hu:u < 72057594037927936):Spec Tryz.prog 137 #[.int .u64 ((u:Nat):Int)] [] fun F v M=>v=.int .i64 (zagN u)/\M=F:=by
 refine Spec.intro Tryz.func137 rfl rfl fun B F=>?_
 simp only [Tryz.ntmps137,List.cons_append,List.nil_append,env0,Nat.reduceAdd]
 refine .sr (.assign (.x (.move ?_)))
 refine .shr ?_
 refine .cast (d:=4) (u:=.int .u64 ((u / 2:Nat):Int)) rfl (congrArg (Value.int .u64) (shr1u u)) ?_
 refine .cvt ?_ un148 un3
 refine .cast (d:=5) (u:=.int .i64 ((u / 2:Nat):Int)) rfl (congrArg (Value.int .i64) (i64_wrap0 (by omega))) ?_
 refine .move ?_
 refine .and ?_
 refine .cast (d:=7) (u:=.int .u64 ((u % 2:Nat):Int)) rfl (congrArg (Value.int .u64) (and64_1 u (by omega))) ?_
 refine .cvt ?_ un148 un3
 refine .cast (d:=8) (u:=.int .i64 ((u % 2:Nat):Int)) rfl (congrArg (Value.int .i64) (i64_wrap0 (by omega))) ?_
 refine .neg ?_
 refine .xor ?_
 refine .cast (d:=10) (u:=.int .i64 (zagN u)) rfl (congrArg (Value.int .i64) (zagX hu)) ?_
 refine .assign (.z ?_)
 refine .ret (?_)
 exact .ret1 (h1:=.tmp (t:=2) rfl) ⟨_,⟨rfl,rfl⟩,Am.auto⟩
theorem rdVarint {R:HP} {x ab ao m c p:Nat} {xs rest:Bytes} {n:Nat} (hR:Reads R (some ⟨ab,ao,none⟩) (bvs xs)) (hm:xs.length=m) (hmc:m<=c) (hxs:xs.drop p=vint n++rest) (hn:n < 72057594037927936) (hl:m<=1073741824):Spec Tryz.prog 136 #[.pointer (some ⟨x,0,none⟩)] [pt x (rdO ab ao m c p),R]
  fun F v M=>v=.int .u64 ((n:Nat):Int)/\M=pt x (rdO ab ao m c (p+(vint n).length)) :: R :: F:=by
 refine Spec.intro Tryz.func136 rfl rfl fun B F=>?_
 simp only [Tryz.ntmps136,List.cons_append,List.nil_append,env0,Nat.reduceAdd]
 have h8:=vint_len8 hn
 have hpos:=vint_pos n
 have hpm:p+(vint n).length<=m:=by
  have h:=congrArg List.length hxs
  rw [List.length_drop,List.length_append] at h
  omega
 refine .sr (.assign (.z (.seq ?_)))
 refine .dr ([pt x (rdO ab ao m c p)]) [] 15 mixed .autoJ ?_
 refine .tk 0 rfl .move ?_
 refine .tk 1 rfl .nilCheck ?_
 refine .tk 2 rfl (.fa fo207_0) ?_
 refine .tk 3 rfl (.ld sc59) ?_
 refine .tk 4 rfl .move ?_
 refine .tk 5 rfl .nilCheck ?_
 refine .tk 6 rfl (.fa fo207_1) ?_
 refine .tk 7 rfl (.ld sc3) ?_
 refine .tk 8 rfl ((Qt.slcL so59).eq (slc_at (show p < c by omega))) ?_
 refine .on 9 rfl fun hnp=>?_
 refine .call (hc:=Tryz.call174) (sp:=bitsUnvarint (bvs_read (p:=p) hR) (by rw [List.length_drop,hm]) hxs hn (by omega)) (h:=?_)
 rintro _ _ ⟨rfl,rfl⟩
 refine .nil (.wa hnp ?_)
 refine .tk 10 rfl .move ?_
 refine .tk 11 rfl .extract ?_
 refine .tk 12 rfl .extract ?_
 refine .tk 13 rfl .assign ?_
 refine .tk 14 rfl .assign ?_
 refine .fin ?_
 refine .next (.seq (.sr (.move ?_)))
 refine .eqi ?_
 refine .z ?_
 refine .condF rfl (congrArg Value.bool (decide_eq_false (by omega))) ?_
 refine .skip (.next (.sr (.move ?_)))
 refine .nilCheck ?_
 refine .fa ?_ fo207_1
 refine .ld ?_ sc3
 refine .move ?_
 refine .add ?_
 refine .nilCheck ?_
 refine .fa ?_ fo207_1
 refine .st ?_ sc3
 refine .x (.move (.assign (.z ?_)))
 refine .ret (?_)
 exact .ret1 (h1:=.tmp (t:=2) rfl) ⟨_,⟨rfl,rfl⟩,Am.auto⟩
theorem fo207_2 :fieldOk Tryz.prog 207 2 2=true:=by kernel_rfl
theorem rdTextF {R:HP} {x ab ao m c p:Nat} {xs rest:Bytes}:Spec Tryz.prog 138 #[.pointer (some ⟨x,0,none⟩),.bool false] [pt x (rdO ab ao m c p)] fun F v M=>v=sv []/\M=pt x (rdO ab ao m c p) :: F:=by
 refine Spec.intro Tryz.func138 rfl rfl fun B F=>?_
 simp only [Tryz.ntmps138,List.cons_append,List.nil_append,env0,Nat.reduceAdd]
 refine .sr (.assign (.z (.seq (.sr (.move ?_)))))
 refine .not ?_
 refine .move ?_
 refine .gF ?_
 refine .gF ?_
 refine .gF ?_
 refine .gF ?_
 refine .pickT ?_
 refine .z ?_
 refine .condT rfl rfl ?_
 refine .sr (.assign (.z ?_))
 refine .ret (.thenRet (?_))
 exact .ret1 (h1:=.tmp (t:=4) rfl) ⟨_,⟨rfl,rfl⟩,Am.auto⟩
theorem rdTextT {R:HP} {x ab ao m c p:Nat} {xs rest:Bytes} {s:Bytes} (hR:Reads R (some ⟨ab,ao,none⟩) (bvs xs)) (hm:xs.length=m) (hmc:m<=c) (hxs:xs.drop p=vint s.length++(s++rest)) (hs:s.length<=2000) (hl:m<=1073741824):Spec Tryz.prog 138 #[.pointer (some ⟨x,0,none⟩),.bool true] [pt x (rdO ab ao m c p),R]
  fun F v M=>v=sv s/\M=pt x (rdO ab ao m c (p+(vint s.length).length+s.length)) :: R :: F:=by
 refine Spec.intro Tryz.func138 rfl rfl fun B F=>?_
 simp only [Tryz.ntmps138,List.cons_append,List.nil_append,env0,Nat.reduceAdd]
 have h8:=vint_len8 (n:=s.length) (by omega)
 have hpos:=vint_pos s.length
 have hpm:p+(vint s.length).length+s.length<=m:=by
  have h:=congrArg List.length hxs
  rw [List.length_drop,List.length_append,List.length_append] at h
  omega
 obtain ⟨p2,hp2⟩:∃ p2,p2=p+(vint s.length).length:=⟨_,rfl⟩
 have hd2:xs.drop p2=s++rest:=by
  rw [hp2,<-List.drop_drop,hxs,List.drop_left]
 rw [<- hp2] at hpm ⊢
 have hRs:Reads R (some ⟨ab,if c=p2 then ao else ao+p2,none⟩) (bvs s):=by
  by_cases h:c=p2
  ·have:s=[]:=List.eq_nil_of_length_eq_zero (by omega)
   rw [if_pos h,this]
   exact hR.take 0
  ·rw [if_neg h]
   have h2:=(bvs_read (p:=p2) hR).take s.length
   rw [<- bvs_take,hd2,List.take_left] at h2
   exact h2
 have hslc:Value.slice (if c=((p2:Nat):Int).toNat then some ⟨ab,ao,none⟩ else some ⟨ab,ao+((p2:Nat):Int).toNat * 1,none⟩) ((((p2:Nat):Int)+((s.length:Nat):Int)).toNat - ((p2:Nat):Int).toNat) (c - ((p2:Nat):Int).toNat)=.slice (some ⟨ab,if c=p2 then ao else ao+p2,none⟩) s.length (c - p2):=by
  rw [Int.toNat_natCast,Nat.mul_one,show (((p2:Nat):Int)+((s.length:Nat):Int)).toNat - p2=s.length by omega]
  split<;>rfl
 refine .sr (.assign (.z (.seq (.sr (.move ?_)))))
 refine .not ?_
 refine .move ?_
 refine .gT ?_
 refine .move ?_
 refine .gT ?_
 refine .nilCheck ?_
 refine .gT ?_
 refine .fa ?_ fo207_2
 refine .gT ?_
 refine .ld ?_ sc4
 refine .pickF ?_
 refine .z ?_
 refine .condF rfl rfl ?_
 refine .skip (.next (.sr (.move ?_)))
 refine .call (hc:=Tryz.call136) (sp:=rdVarint (n:=s.length) hR hm hmc hxs (by omega) hl) (h:=?_)
 rintro _ _ ⟨rfl,rfl⟩
 rw [<- hp2]
 refine .assign (.z (.seq (.seq ?_)))
 refine .dr ([pt x (rdO ab ao m c p2)]) [] 19 mixed .autoJ ?_
 refine .tk 0 rfl .move ?_
 refine .tk 1 rfl .nilCheck ?_
 refine .tk 2 rfl (.fa fo207_2) ?_
 refine .tk 3 rfl (.ld sc4) ?_
 refine .tk 4 rfl .move ?_
 refine .tn 5 rfl .move ?_
 refine .tn 6 rfl .move ?_
 refine .tn 7 rfl .nilCheck ?_
 refine .tn 8 rfl (.fa fo207_0) ?_
 refine .tn 9 rfl (.ld sc59) ?_
 refine .tn 10 rfl (.lenS sl59) ?_
 refine .tn 11 rfl .move ?_
 refine .tn 12 rfl .nilCheck ?_
 refine .tn 13 rfl (.fa fo207_1) ?_
 refine .tn 14 rfl (.ld sc3) ?_
 refine .tn 15 rfl .sub ?_
 refine .tn 16 rfl ((Qt.cvt un3 un148).eq (congrArg (Value.int .u64) (show IntKind.u64.wrap (((m:Nat):Int) - ((p2:Nat):Int))=((m:Nat):Int) - ((p2:Nat):Int) from IntWalk.u64_in _ (by omega)))) ?_
 refine .tn 17 rfl .gtr ?_
 refine .tk 18 rfl .pickF ?_
 refine .fin ?_
 refine .next ?_
 refine .condF rfl (congrArg Value.bool (decide_eq_false (by omega))) ?_
 refine .skip (.next (.seq ?_))
 refine .dr ([pt x (rdO ab ao m c p2),R]) [] 18 mixed .autoJ ?_
 refine .tk 0 rfl .move ?_
 refine .tk 1 rfl .nilCheck ?_
 refine .tk 2 rfl (.fa fo207_0) ?_
 refine .tk 3 rfl (.ld sc59) ?_
 refine .tk 4 rfl .move ?_
 refine .tk 5 rfl .nilCheck ?_
 refine .tk 6 rfl (.fa fo207_1) ?_
 refine .tk 7 rfl (.ld sc3) ?_
 refine .tk 8 rfl .move ?_
 refine .tk 9 rfl .nilCheck ?_
 refine .tk 10 rfl (.fa fo207_1) ?_
 refine .tk 11 rfl (.ld sc3) ?_
 refine .tk 12 rfl .move ?_
 refine .tk 13 rfl ((Qt.cvt un148 un3).eq (congrArg (Value.int .i64) (i64_wrap0 (show s.length < 2 ^ 63 by omega)))) ?_
 refine .tk 14 rfl .add ?_
 refine .tk 15 rfl ((Qt.slcLH so59).eq hslc) ?_
 refine .tk 16 rfl (Qt.cvtBS by59 st9 hRs rfl) ?_
 refine .tk 17 rfl .assign ?_
 refine .fin ?_
 refine .next (.sr (.move ?_))
 refine .nilCheck ?_
 refine .fa ?_ fo207_1
 refine .ld ?_ sc3
 refine .move ?_
 refine .cvt ?_ un148 un3
 refine .cast (d:=60) (u:=.int .i64 ((s.length:Nat):Int)) rfl (congrArg (Value.int .i64) (i64_wrap0 (show s.length < 2 ^ 63 by omega))) ?_
 refine .add ?_
 refine .nilCheck ?_
 refine .fa ?_ fo207_1
 refine .st ?_ sc3
 refine .x (.move (.assign (.z ?_)))
 refine .ret (?_)
 exact .ret1 (h1:=.tmp (t:=4) rfl) ⟨_,⟨rfl,rfl⟩,Am.auto⟩
def optB (is:Bool) (s:Bytes):Bytes:=if is then txtB s else []
theorem rdText {R:HP} {x ab ao m c p:Nat} {xs rest:Bytes} {is:Bool} {s:Bytes} (hR:Reads R (some ⟨ab,ao,none⟩) (bvs xs)) (hm:xs.length=m) (hmc:m<=c) (h0:is=false->s=[]) (hxs:xs.drop p=optB is s++rest) (hs:s.length<=2000) (hl:m<=1073741824) :
  Spec Tryz.prog 138 #[.pointer (some ⟨x,0,none⟩),.bool is] [pt x (rdO ab ao m c p),R] fun F v M=>v=sv s/\M=pt x (rdO ab ao m c (p+(optB is s).length)) :: R :: F:=by
 cases is with
 | false =>
  obtain rfl:=h0 rfl
  refine Spec.post' (Spec.pre' (Spec.frame R (rdTextF (R:=R) (xs:=xs) (rest:=rest) (x:=x) (ab:=ab) (ao:=ao) (m:=m) (c:=c) (p:=p))) (pre':=[pt x (rdO ab ao m c p),R]) fun B w F hs=>hs.take (.cons (.there .here) (.cons .here .nil))) ?_
  rintro F v M B w ⟨rfl,rfl⟩ hs
  exact ⟨_,⟨rfl,rfl⟩,hs⟩
 | true =>
  have h:=rdTextT (x:=x) hR hm hmc (s:=s) (rest:=rest) (by rw [hxs];show (vint s.length++s)++rest=_;rw [List.append_assoc]) hs hl
  have e:p+(optB true s).length=p+(vint s.length).length+s.length:=by
   show p+(vint s.length++s).length=_
   rw [List.length_append];omega
  rw [e]
  exact h
theorem bdRd (ab ao m c:Nat):BuildOk Tryz.prog 207 [(0,.slice (some ⟨ab,ao,none⟩) m c),(1,.int .i64 1)] #[.slice (some ⟨ab,ao,none⟩) m c,.int .i64 1,.bool false]:=fun w=>by kernel_rfl
theorem bdRecD (a b:Bool) (s t:Int):BuildOk Tryz.prog 66 [(0,.bool a),(2,.bool b),(4,.int .i64 s),(5,.int .i64 t)] #[.bool a,.string ⟨#[]⟩,.bool b,.string ⟨#[]⟩,.int .i64 s,.int .i64 t]:=fun w=>by kernel_rfl
theorem fl_1 (a b:Bool):decide (band .u8 ((flN a b:Nat):Int) 1 > 0)=a:=by cases a<;>cases b<;>decide +kernel
theorem fl_2 (a b:Bool):decide (band .u8 ((flN a b:Nat):Int) 2 > 0)=b:=by cases a<;>cases b<;>decide +kernel
theorem flN_le (a b:Bool):flN a b<=3:=by cases a<;>cases b<;>decide
theorem enc_cell (r:Rc) (f:Int) (rest:Bytes):(bvs (encB r f++rest))[0]?=some (.int .u8 ((flN r.hk r.hv:Nat):Int)):=by
 show some (bv (UInt8.ofNat (flN r.hk r.hv)))=_
 unfold bv
 rw [UInt8.toNat_ofNat',Nat.mod_eq_of_lt (by have:=flN_le r.hk r.hv;omega)]
theorem ckE_keys {r:Rc} (h:ckE r=0):(r.hk=false->r.key=[])/\(r.hv=false->r.val=[]):=by
 unfold ckE at h
 by_cases h1:r.odd=true
 ·rw [if_pos h1] at h;cases h
 ·unfold Rc.odd at h1
  simp only [Bool.or_eq_true,not_or,Bool.and_eq_true,Bool.not_eq_true',decide_eq_false_iff_not,not_and,decide_eq_true_eq] at h1
  exact ⟨fun h=>Classical.byContradiction fun h2=>h1.1.1.1.1.1 h h2,fun h=>Classical.byContradiction fun h2=>h1.1.1.1.1.2 h h2⟩
theorem recDecode {R:HP} {A:Addr} {m c:Nat} {xs rest:Bytes} {r:Rc} {first:Int} (hR:Reads R (some A) (bvs xs)) (hm:xs.length=m) (hmc:m<=c) (hxs:xs=encB r first++rest) (hck:ckE r=0) (hf:0<=first/\first<=1125899906842624) (hl:m<=1073741824) :
  Spec Tryz.prog 73 #[.slice (some A) m c,.int .i64 first] [R] fun F v M=>v=.tuple #[.agg r.v.toArray,.int .i64 (((encB r first).length:Nat):Int),.int .i64 0]/\M=R :: F:=by
 refine Spec.intro Tryz.func73 rfl rfl fun B F=>?_
 simp only [Tryz.ntmps73,List.cons_append,List.nil_append,env0,Nat.reduceAdd]
 obtain ⟨ab,ao,asp⟩:=A
 have hsp:asp=none:=hR.1
 subst hsp
 obtain ⟨⟨hkl,hvl⟩,ht,ho⟩:=ckE_ok hck
 obtain ⟨hk0,hv0⟩:=ckE_keys hck
 have hcell:=enc_cell r first rest
 rw [<- hxs] at hcell
 have hfl:=flN_le r.hk r.hv
 have hpos:1<=m:=by have:=encB_pos r first;rw [<- hm,hxs,List.length_append];omega
 have hb:-1125899906842624<=r.time - first/\r.time - first<=1125899906842624:=by omega
 have hzz:=zag_zig hb
 have hzs:=zigN_small hb
 obtain ⟨p1,hp1⟩:∃ p1,p1=1+(vint r.off.toNat).length:=⟨_,rfl⟩
 obtain ⟨p2,hp2⟩:∃ p2,p2=p1+(vint (zigN (r.time - first))).length:=⟨_,rfl⟩
 obtain ⟨p3,hp3⟩:∃ p3,p3=p2+(optB r.hk r.key).length:=⟨_,rfl⟩
 obtain ⟨p4,hp4⟩:∃ p4,p4=p3+(optB r.hv r.val).length:=⟨_,rfl⟩
 have henc:encB r first=flB r++(vint r.off.toNat++(vint (zigN (r.time - first))++(optB r.hk r.key++optB r.hv r.val))):=rfl
 have hlen:p4=(encB r first).length:=by
  rw [henc]
  simp only [List.length_append]
  rw [hp4,hp3,hp2,hp1,show (flB r).length=1 from rfl]
  omega
 have hd1:xs.drop 1=vint r.off.toNat++((vint (zigN (r.time - first))++(optB r.hk r.key++optB r.hv r.val))++rest):=by
  rw [hxs,henc,List.append_assoc,show 1=(flB r).length from rfl,List.drop_left,List.append_assoc]
 have hd2:xs.drop p1=vint (zigN (r.time - first))++((optB r.hk r.key++optB r.hv r.val)++rest):=by
  rw [hp1,<-List.drop_drop,hd1,List.drop_left,List.append_assoc]
 have hd3:xs.drop p2=optB r.hk r.key++(optB r.hv r.val++rest):=by
  rw [hp2,<-List.drop_drop,hd2,List.drop_left,List.append_assoc]
 have hd4:xs.drop p3=optB r.hv r.val++rest:=by
  rw [hp3,<-List.drop_drop,hd3,List.drop_left]
 refine .sr ?_
 refine .alloc z66 fun b4=>?_
 refine .assign (.assign (.z (.seq (.sr (.move ?_)))))
 refine .lenS ?_ sl59
 refine .eqi ?_
 refine .move ?_
 refine .cast (d:=13) (u:=.bool false) rfl (congrArg Value.bool (by first | (exact decide_eq_true (by omega)) | (exact decide_eq_false (by omega)) | (simp;done) | (simp;omega) | omega)) ?_
 refine .gT ?_
 refine .move ?_
 refine .gT ?_
 refine .idx1 ?_ so59
 refine .gT ?_
 refine .ldR (i:=0) ?_ sc5 hR hcell
 refine .gT ?_
 refine .gtr ?_
 refine .pickF ?_
 refine .move ?_
 refine .cast (d:=19) (u:=.bool false) rfl (congrArg Value.bool (by first | (exact decide_eq_true (by omega)) | (exact decide_eq_false (by omega)) | (simp;done) | (simp;omega) | omega)) ?_
 refine .gT ?_
 refine .move ?_
 refine .gT ?_
 refine .lss ?_
 refine .pickF ?_
 refine .move ?_
 refine .cast (d:=23) (u:=.bool false) rfl (congrArg Value.bool (by first | (exact decide_eq_true (by omega)) | (exact decide_eq_false (by omega)) | (simp;done) | (simp;omega) | omega)) ?_
 refine .gT ?_
 refine .move ?_
 refine .gT ?_
 refine .gtr ?_
 refine .pickF ?_
 refine .z ?_
 refine .condF rfl (congrArg Value.bool (by first | (exact decide_eq_true (by omega)) | (exact decide_eq_false (by omega)) | (simp;done) | (simp;omega) | omega)) ?_
 refine .skip (.next (.sr (.move ?_)))
 refine .build ?_ (bdRd _ _ _ _)
 refine .box fun b30=>?_
 refine .assign (.x (.move ?_))
 refine .call (hc:=Tryz.call136) (sp:=rdVarint (n:=r.off.toNat) hR hm hmc hd1 (by omega) hl) (h:=?_)
 rintro _ _ ⟨rfl,rfl⟩
 rw [<- hp1]
 refine .assign (.assign (.z (.seq (.sr (.move ?_)))))
 refine .nilCheck ?_
 refine .fa ?_ fo207_2
 refine .ld ?_ sc4
 refine .not ?_
 refine .z ?_
 refine .condT rfl rfl ?_
 refine .region (.move ?_)
 refine .call (hc:=Tryz.call136) (sp:=rdVarint (n:=zigN (r.time - first)) hR hm hmc hd2 hzs hl) (h:=?_)
 rintro _ _ ⟨rfl,rfl⟩
 rw [<- hp2]
 refine .call (hc:=Tryz.call137) (sp:=bitsZag hzs) (h:=?_)
 rintro _ _ ⟨rfl,rfl⟩
 rw [hzz]
 refine .assign (.z (.seq (.sr (.move ?_))))
 refine .nilCheck ?_
 refine .fa ?_ fo207_2
 refine .ld ?_ sc4
 refine .move ?_
 refine .gT ?_
 refine .move ?_
 refine .gT ?_
 refine .geq ?_
 refine .pickF ?_
 refine .move ?_
 refine .cast (d:=49) (u:=.bool false) rfl (congrArg Value.bool (by first | (exact decide_eq_true (by omega)) | (exact decide_eq_false (by omega)) | (simp;done) | (simp;omega) | omega)) ?_
 refine .gT ?_
 refine .move ?_
 refine .gT ?_
 refine .move ?_
 refine .gT ?_
 refine .neg ?_
 refine .gT ?_
 refine .lss ?_
 refine .pickF ?_
 refine .move ?_
 refine .cast (d:=55) (u:=.bool false) rfl (congrArg Value.bool (by first | (exact decide_eq_true (by omega)) | (exact decide_eq_false (by omega)) | (simp;done) | (simp;omega) | omega)) ?_
 refine .gT ?_
 refine .move ?_
 refine .gT ?_
 refine .move ?_
 refine .gT ?_
 refine .sub ?_
 refine .gT ?_
 refine .gtr ?_
 refine .pickF ?_
 refine .z ?_
 refine .condF rfl (congrArg Value.bool (by first | (exact decide_eq_true (by omega)) | (exact decide_eq_false (by omega)) | (simp;done) | (simp;omega) | omega)) ?_
 refine .skip (.next (.seq ?_))
 refine .dr ([R]) [16] 17 mixed .autoJ ?_
 refine .tk 0 rfl .move ?_
 refine .tk 1 rfl (.idx1 so59) ?_
 refine .tk 2 rfl (Qt.ldR (i:=0) sc5 hR hcell) ?_
 refine .tk 3 rfl .and ?_
 refine .tk 4 rfl ((Qt.gtr).eq (congrArg Value.bool (fl_1 r.hk r.hv))) ?_
 refine .tk 5 rfl .move ?_
 refine .tk 6 rfl (.idx1 so59) ?_
 refine .tk 7 rfl (Qt.ldR (i:=0) sc5 hR hcell) ?_
 refine .tk 8 rfl .and ?_
 refine .tk 9 rfl ((Qt.gtr).eq (congrArg Value.bool (fl_2 r.hk r.hv))) ?_
 refine .tk 10 rfl .move ?_
 refine .tk 11 rfl .move ?_
 refine .tk 12 rfl ((Qt.add).eq (congrArg (Value.int .i64) (show first+(r.time - first)=r.time by omega))) ?_
 refine .tk 13 rfl .move ?_
 refine .tk 14 rfl ((Qt.cvt un148 un3).eq (congrArg (Value.int .i64) (show IntKind.i64.wrap ((r.off.toNat:Nat):Int)=r.off by rw [i64_wrap0 (by omega)];omega))) ?_
 refine .tk 15 rfl (.build (bdRecD _ _ _ _)) ?_
 refine .on 16 rfl fun hnp=>?_
 refine .stV ?_ agg66
 refine .nil (.wb hnp ?_)
 refine .fin ?_
 refine .next (.sr (.move ?_))
 refine .fa ?_ fo66_0
 refine .ld ?_ sc4
 refine .call (hc:=Tryz.call138) (sp:=rdText hR hm hmc hk0 hd3 hkl hl) (h:=?_)
 rintro _ _ ⟨rfl,rfl⟩
 rw [<- hp3]
 refine .fa ?_ fo66_1
 refine .st ?_ sc9
 refine .x (.move ?_)
 refine .fa ?_ fo66_2
 refine .ld ?_ sc4
 refine .call (hc:=Tryz.call138) (sp:=rdText hR hm hmc hv0 hd4 hvl hl) (h:=?_)
 rintro _ _ ⟨rfl,rfl⟩
 rw [<- hp4]
 refine .fa ?_ fo66_3
 refine .st ?_ sc9
 refine .z (.seq (.sr (.move ?_)))
 refine .nilCheck ?_
 refine .fa ?_ fo207_2
 refine .ld ?_ sc4
 refine .move ?_
 refine .gT ?_
 refine .ldA ?_ agg66
 refine .gT ?_
 refine .call (hc:=Tryz.call113) (sp:=recCheck (r:=r)) (h:=?_)
 rintro _ _ ⟨rfl,rfl⟩
 rw [hck]
 refine .gT ?_
 refine .nei ?_
 refine .pickF ?_
 refine .z ?_
 refine .condF rfl rfl ?_
 refine .skip (.next (.seq ?_))
 refine .dr ([pt b4 (.cells r.v.toArray 66 (0,0)),pt b30 (rdO ab ao m c p4)]) [] 8 mixed .autoJ ?_
 refine .tk 0 rfl (.ldA agg66) ?_
 refine .tk 1 rfl .move ?_
 refine .tk 2 rfl .nilCheck ?_
 refine .tk 3 rfl (.fa fo207_1) ?_
 refine .tk 4 rfl (.ld sc3) ?_
 refine .on 5 rfl fun hnp=>?_
 refine .stV ?_ agg66
 refine .nil (.wa hnp ?_)
 refine .tk 6 rfl .assign ?_
 refine .tk 7 rfl .assign ?_
 refine .fin ?_
 refine .next ?_
 refine .ret (?_)
 exact .ret3 (h2:=.tmp (t:=5) rfl) (h3:=.tmp (t:=6) rfl) ⟨_,⟨by rw [<- hlen],rfl⟩,Am.auto⟩
theorem ptr27 :ptrOk Tryz.prog 27=true:=by kernel_rfl
theorem fo58_2 :fieldOk Tryz.prog 58 2 2=true:=by kernel_rfl
theorem fo58_3 :fieldOk Tryz.prog 58 3 3=true:=by kernel_rfl
theorem fo58_4 :fieldOk Tryz.prog 58 4 4=true:=by kernel_rfl
theorem sc56 :scalarOk Tryz.prog 56=true:=by kernel_rfl
theorem sl56 :Tryz.prog.underlying 56=some (.slice 72):=by kernel_rfl
theorem fo72_0 :fieldOk Tryz.prog 72 0 0=true:=by kernel_rfl
theorem so56 :sliceOk Tryz.prog 56 72 6 64=true:=by kernel_rfl
theorem z72 :zeroOf Tryz.prog 72=some (#[.int .i64 0,.int .i64 0,.int .i64 0,.int .i64 0,.slice none 0 0,.int .i64 0]):=by kernel_rfl
structure SRow where
 b:Bt
 s:Value
 k:Nat
def SRow.v (x:SRow):List Value:=x.b.v x.s++[.int .i64 ((x.k:Nat):Int)]
theorem SRow.v_len (x:SRow):x.v.length=6:=rfl
structure SRowOk (os:List (Nat×Obj)) (x:SRow):Prop where
 at':∃ A c,x.s=.slice (some A) x.b.recs.length c/\Reads (frz os) (some A) x.b.rv
 pos:0 < x.b.recs.length
 len:x.b.recs.length<=10000
 rng:(0<=x.b.base/\x.b.base<=1125899906842624)/\1<=x.b.span/\x.b.span<=100
def sizR :List SRow->Nat
 | []=>0
 | x :: l=>x.k+sizR l
theorem sizR_append (l m:List SRow):sizR (l++m)=sizR l+sizR m:=by
 induction l with
 | nil=>simp [sizR]
 | cons r l ih=>simp only [List.cons_append,sizR,ih];omega
def nextR (base:Int) (l:List SRow):Int:=match l.getLast? with
 | some x=>x.b.base+x.b.span
 | none=>base
def sgO (f:Nat) (path:Bytes) (base:Int) (rows:List SRow) (u:Value):Obj:=.cells #[.pointer (some ⟨f,0,none⟩),sv path,.int .i64 base,.int .i64 ((sizR rows:Nat):Int),u] 58 (0,0)
theorem segMay {base:Int}:Spec Tryz.prog 26 #[.int .i64 base] [] fun F v M=>v=.bool (decide (0<=base) && decide (base<=1125899906842624))/\M=F:=by
 refine Spec.intro Tryz.func26 rfl rfl fun B F=>?_
 simp only [Tryz.ntmps26,List.cons_append,List.nil_append,env0,Nat.reduceAdd]
 refine .sr (.assign (.x (.move ?_)))
 refine .geq ?_
 refine .move ?_
 refine .split (t:=5) rfl (fun hb=>?_) (fun hb=>?_)
 ·refine .gT ?_
  refine .move ?_
  refine .gT ?_
  refine .leq ?_
  refine .pickT ?_
  refine .assign (.z ?_)
  refine .ret (?_)
  exact .ret1 (h1:=.tmp (t:=2) rfl) ⟨_,⟨by rw [show decide (0<=base)=true from hb,Bool.true_and],rfl⟩,Am.auto⟩
 ·refine .gF ?_
  refine .gF ?_
  refine .pickF ?_
  refine .assign (.z ?_)
  refine .ret (?_)
  exact .ret1 (h1:=.tmp (t:=2) rfl) ⟨_,⟨by rw [show decide (0<=base)=false from hb,Bool.false_and],rfl⟩,Am.auto⟩
theorem segBase {s f:Nat} {path:Bytes} {base:Int} {rows:List SRow} {u:Value}:Spec Tryz.prog 18 #[.pointer (some ⟨s,0,none⟩)] [pt s (sgO f path base rows u),rowR 72 6 u rows.length (rows.flatMap SRow.v)] fun F v M=>v=.int .i64 base/\M=pt s (sgO f path base rows u) :: rowR 72 6 u rows.length (rows.flatMap SRow.v) :: F:=by
 refine Spec.intro Tryz.func18 rfl rfl fun B F=>?_
 simp only [Tryz.ntmps18,List.cons_append,List.nil_append,env0,Nat.reduceAdd]
 refine .sr (.assign (.z (.seq (.sr (.move ?_)))))
 refine .eqNil ?_ ptr27
 refine .z ?_
 refine .condF rfl rfl ?_
 refine .skip (.next (.sr (.move ?_)))
 refine .nilCheck ?_
 refine .fa ?_ fo58_2
 refine .ld ?_ sc3
 refine .assign (.z ?_)
 refine .ret (?_)
 exact .ret1 (h1:=.tmp (t:=2) rfl) ⟨_,⟨rfl,rfl⟩,Am.auto⟩
theorem segSize {s f:Nat} {path:Bytes} {base:Int} {rows:List SRow} {u:Value}:Spec Tryz.prog 14 #[.pointer (some ⟨s,0,none⟩)] [pt s (sgO f path base rows u),rowR 72 6 u rows.length (rows.flatMap SRow.v)] fun F v M=>v=.int .i64 ((sizR rows:Nat):Int)/\M=pt s (sgO f path base rows u) :: rowR 72 6 u rows.length (rows.flatMap SRow.v) :: F:=by
 refine Spec.intro Tryz.func14 rfl rfl fun B F=>?_
 simp only [Tryz.ntmps14,List.cons_append,List.nil_append,env0,Nat.reduceAdd]
 refine .sr (.assign (.z (.seq (.sr (.move ?_)))))
 refine .eqNil ?_ ptr27
 refine .z ?_
 refine .condF rfl rfl ?_
 refine .skip (.next (.sr (.move ?_)))
 refine .nilCheck ?_
 refine .fa ?_ fo58_3
 refine .ld ?_ sc3
 refine .assign (.z ?_)
 refine .ret (?_)
 exact .ret1 (h1:=.tmp (t:=2) rfl) ⟨_,⟨rfl,rfl⟩,Am.auto⟩
theorem segNext {s f:Nat} {path:Bytes} {base:Int} {rows:List SRow} {u:Value} {os:List (Nat×Obj)} (hok:∀ x∈rows,SRowOk os x) (hl:rows.length<=100000):Spec Tryz.prog 16 #[.pointer (some ⟨s,0,none⟩)] [pt s (sgO f path base rows u),rowR 72 6 u rows.length (rows.flatMap SRow.v)] fun F v M=>v=.int .i64 (nextR base rows)/\M=pt s (sgO f path base rows u) :: rowR 72 6 u rows.length (rows.flatMap SRow.v) :: F:=by
 refine Spec.intro Tryz.func16 rfl rfl fun B F=>?_
 simp only [Tryz.ntmps16,List.cons_append,List.nil_append,env0,Nat.reduceAdd]
 refine .fact (rowR_shape (el:=72) (size:=6) (k:=rows.length) (v:=u) (xs:=rows.flatMap SRow.v)) fun ⟨A,c,hu,hR,_,_,_⟩=>?_
 subst hu
 refine .sr (.assign (.z (.seq (.sr (.move ?_)))))
 refine .eqNil ?_ ptr27
 refine .move ?_
 refine .gT ?_
 refine .move ?_
 refine .gT ?_
 refine .nilCheck ?_
 refine .gT ?_
 refine .fa ?_ fo58_4
 refine .gT ?_
 refine .ld ?_ sc56
 refine .gT ?_
 refine .lenS ?_ sl56
 refine .gT ?_
 refine .eqi ?_
 refine .pickF ?_
 refine .z ?_
 refine .cond rfl (fun hb=>?_) (fun hb=>?_)
 ·have h0:rows=[]:=List.eq_nil_of_length_eq_zero (by have h:((rows.length:Nat):Int)=0:=of_decide_eq_true hb;omega)
  refine .sr (.move ?_)
  refine .call (hc:=Tryz.call18) (sp:=segBase) (h:=?_)
  rintro _ _ ⟨rfl,rfl⟩
  refine .assign (.z ?_)
  refine .ret (.thenRet (?_))
  exact .ret1 (h1:=.tmp (t:=2) rfl) ⟨_,⟨by rw [h0];rfl,rfl⟩,Am.auto⟩
 ·have hpos:0 < rows.length:=by have h:¬ ((rows.length:Nat):Int)=0:=of_decide_eq_false hb;omega
  obtain ⟨ab,ao,rfl⟩:∃ ab ao,A=some ⟨ab,ao,none⟩:=by
   cases A with
   | none =>
    have h0:rows.flatMap SRow.v=[]:=hR
    have h1:=flat_length SRow.v_len rows
    rw [h0] at h1
    simp at h1
    omega
   | some a =>
    obtain ⟨x,y,z⟩:=a
    have:z=none:=hR.1
    subst this
    exact ⟨x,y,rfl⟩
  obtain ⟨x,hx⟩:∃ x,rows[rows.length - 1]?=some x:=⟨_,List.getElem?_eq_getElem (by omega)⟩
  have hxok:=hok x (List.mem_of_getElem? hx)
  obtain ⟨A1,c1,hxs,_⟩:=hxok.at'
  have hrng:=hxok.rng
  have hnx:nextR base rows=x.b.base+x.b.span:=by unfold nextR;rw [List.getLast?_eq_getElem?,hx]
  have hus:((rows.flatMap SRow.v).drop ((rows.length - 1) * 6)).take 5=x.b.v (.slice (some A1) x.b.recs.length c1):=by
   have h1:=congrArg (List.take 5) (flat_at SRow.v_len _ _ _ hx)
   rw [List.take_take] at h1
   rw [<- hxs]
   exact h1
  have hfit:(rows.length - 1) * 6+5<=(rows.flatMap SRow.v).length:=by
   have:=flat_fit SRow.v_len (l:=rows) (i:=rows.length - 1) (by omega)
   omega
  refine .skip (.next (.seq ?_))
  refine .dr ([pt s (sgO f path base rows (.slice (some ⟨ab,ao,none⟩) rows.length c)),rowR 72 6 (.slice (some ⟨ab,ao,none⟩) rows.length c) rows.length (rows.flatMap SRow.v)]) [14] 15 mixed .autoJ ?_
  refine .tk 0 rfl .move ?_
  refine .tk 1 rfl .nilCheck ?_
  refine .tk 2 rfl (.fa fo58_4) ?_
  refine .tk 3 rfl (.ld sc56) ?_
  refine .tk 4 rfl .move ?_
  refine .tk 5 rfl .nilCheck ?_
  refine .tk 6 rfl (.fa fo58_4) ?_
  refine .tk 7 rfl (.ld sc56) ?_
  refine .tk 8 rfl (.lenS sl56) ?_
  refine .tk 9 rfl .sub ?_
  refine .tk 10 rfl (.idx so56) ?_
  refine .tk 11 rfl ((Qt.fa fo72_0).eq (congrArg (fun z=>Value.pointer (some ⟨ab,z,none⟩)) (show ao+(((rows.length:Nat):Int) - 1).toNat * 6+0=ao+(rows.length - 1) * 6 by omega))) ?_
  refine .tk 12 rfl (Qt.ldAR (i:=(rows.length - 1) * 6) agg34 hR hus hfit) ?_
  refine .on 13 rfl fun hnp=>?_
  refine .alloc z34 fun b3=>?_
  refine .nil (.wa hnp ?_)
  refine .on 14 rfl fun hnp=>?_
  refine .stV ?_ agg34
  refine .nil (.wb hnp ?_)
  refine .fin ?_
  refine .next (.sr ?_)
  refine .fa ?_ fo34_0
  refine .ld ?_ sc3
  refine .fa ?_ fo34_1
  refine .ld ?_ sc3
  refine .add ?_
  refine .assign (.z ?_)
  refine .ret (?_)
  exact .ret1 (h1:=.tmp (t:=2) rfl) ⟨_,⟨by rw [hnx],rfl⟩,Am.auto⟩
theorem bsRec0 :BuildSOk Tryz.prog 32 0 [] 66 #[]:=fun w=>by kernel_rfl
theorem rowR_of_pt0 {g el size:Nat}:∀ h,pt g (.cells #[] el (0,0)) h->rowR el size (.slice (some ⟨g,0,none⟩) 0 0) 0 [] h:=by
 intro h hh
 unfold pt at hh
 unfold rowR
 exact ⟨by simp,.inr ⟨g,0,#[],rfl,hh,Nat.le_refl _,Nat.zero_le _,by simp,by simp⟩⟩
theorem pt_of_rowR {el size k:Nat} {v:Value} {xs:List Value} (hk:0 < k):∀ h,rowR el size v k xs h->∃ x:Nat×Nat×Array Value,(v=.slice (some ⟨x.1,0,none⟩) k x.2.1/\x.2.2.toList.take xs.length=xs)/\pt x.1 (.cells x.2.2 el (0,0)) h:=by
 intro h hh
 unfold rowR at hh
 obtain ⟨h1,h2⟩:=hh
 rcases h2 with ⟨_,h0⟩ | ⟨g,cap,cur,hv,h3,h4,h5,h6,h7⟩
 ·omega
 ·refine ⟨(g,cap,cur),⟨hv,?_⟩,?_⟩
  ·rw [h1];exact h7
  ·unfold pt;exact h3
theorem rv_single (l:List Rc):∀ u∈l.flatMap Rc.v,Value.single u=true:=by
 intro u hu
 obtain ⟨r,_,hu⟩:=List.mem_flatMap.1 hu
 unfold Rc.v at hu
 simp only [List.mem_cons,List.not_mem_nil,or_false] at hu
 rcases hu with rfl | rfl | rfl | rfl | rfl | rfl<;>rfl
theorem recsClone {R:HP} {A:Addr} {c:Nat} {l:List Rc} (hR:Reads R (some A) (l.flatMap Rc.v)) (hpos:0 < l.length) (hl:l.length<=100000):Spec Tryz.prog 58 #[.slice (some A) l.length c] [R]
  fun F v M=>∃ A2 c2,v=.slice (some A2) l.length c2/\M=rowR 66 6 v l.length (l.flatMap Rc.v) :: R :: F:=by
 refine Spec.intro Tryz.func58 rfl rfl fun B F=>?_
 simp only [Tryz.ntmps58,List.cons_append,List.nil_append,env0,Nat.reduceAdd]
 obtain ⟨ab,ao,asp⟩:=A
 have hsp:asp=none:=hR.1
 subst hsp
 refine .sr (.assign (.z (.seq (.sr (.move ?_)))))
 refine .eqSl ?_ sl32
 refine .z ?_
 refine .condF rfl rfl ?_
 refine .skip (.next (.sr ?_))
 refine .buildS (fun b5=>?_) bsRec0
 refine .move ?_
 refine .to (A:=pt b5 (.cells #[] 66 (0,0))) (A':=rowR 66 6 (.slice (some ⟨b5,0,none⟩) 0 0) 0 []) rowR_of_pt0 ?_
 refine .append (v:=.slice (some ⟨b5,0,none⟩) 0 0) (m:=l.length) (k:=0) (xs:=[]) (news:=l.flatMap Rc.v) (R:=R) so32 (by decide) (by repeat (first | exact .here | apply Rem.there | apply Repl.there | apply Mem.there)) hR (by repeat (first | exact .here | apply Rem.there | apply Repl.there | apply Mem.there)) (flat_length Rc.v_len l) (rv_single l) (by unfold maxLen;omega) (by omega) ⟨_,z66,rfl⟩ (fun v' hv'=>?_)
 rw [Nat.zero_add,List.nil_append]
 refine .rowOpen (v:=v') (hx:=fun h=>by have h1:=congrArg List.length h;rw [flat_length Rc.v_len] at h1;simp only [List.length_nil] at h1;omega) fun A4 c4 hv4 hR4 _ _=>?_
 subst hv4
 refine .assign (.z ?_)
 refine .ret (?_)
 exact .ret1 (h1:=.tmp (t:=2) rfl) ⟨_,⟨A4,c4,rfl,rfl⟩,Am.auto⟩
theorem segOwn {R:HP} {A:Addr} {c:Nat} {b:Bt} (hR:Reads R (some A) b.rv) (hpos:0 < b.recs.length) (hl:b.recs.length<=100000):Spec Tryz.prog 31 #[.agg (b.v (.slice (some A) b.recs.length c)).toArray] [R]
  fun F v M=>∃ A2 c2,v=.agg (b.v (.slice (some A2) b.recs.length c2)).toArray/\M=rowR 66 6 (.slice (some A2) b.recs.length c2) b.recs.length b.rv :: R :: F:=by
 refine Spec.intro Tryz.func31 rfl rfl fun B F=>?_
 simp only [Tryz.ntmps31,List.cons_append,List.nil_append,env0,Nat.reduceAdd]
 refine .sr ?_
 refine .box fun b1=>?_
 refine .alloc z34 fun b2=>?_
 refine .x ?_
 refine .fa ?_ fo34_4
 refine .ld ?_ sc32
 refine .call (hc:=Tryz.call58) (sp:=recsClone (l:=b.recs) hR hpos hl) (h:=?_)
 rintro _ _ ⟨A2,c2,rfl,rfl⟩
 refine .fa ?_ fo34_4
 refine .st ?_ sc32
 refine .x ?_
 refine .ldA ?_ agg34
 refine .stV ?_ agg34
 refine .z ?_
 refine .ret (?_)
 exact .ret1 ⟨_,⟨A2,c2,rfl,rfl⟩,Am.auto⟩
theorem bdRow (a s p q:Int) (A:Option Addr) (m c:Nat) (k:Int):BuildOk Tryz.prog 72 [(0,.agg #[.int .i64 a,.int .i64 s,.int .i64 p,.int .i64 q,.slice A m c]),(1,.int .i64 k)] #[.int .i64 a,.int .i64 s,.int .i64 p,.int .i64 q,.slice A m c,.int .i64 k]:=fun w=>by kernel_rfl
theorem bsRow1 (a s p q:Int) (A:Option Addr) (m c:Nat) (k:Int):BuildSOk Tryz.prog 56 1 [(0,.agg #[.int .i64 a,.int .i64 s,.int .i64 p,.int .i64 q,.slice A m c,.int .i64 k])] 72 #[.int .i64 a,.int .i64 s,.int .i64 p,.int .i64 q,.slice A m c,.int .i64 k]:=fun w=>by kernel_rfl
theorem row_single {b:Bt} {A:Option Addr} {m c k:Nat}:∀ u∈(SRow.v ⟨b,.slice A m c,k⟩),Value.single u=true:=by
 intro u hu
 unfold SRow.v Bt.v at hu
 simp only [List.cons_append,List.nil_append,List.mem_cons,List.not_mem_nil,or_false] at hu
 rcases hu with rfl | rfl | rfl | rfl | rfl | rfl<;>rfl
theorem segAdd {s f:Nat} {path:Bytes} {base:Int} {rows:List SRow} {u:Value} {b:Bt} {A:Option Addr} {m c k:Nat} (hl:rows.length<=100000) (hk:sizR rows<=1152921504606846976) (hk2:k<=1152921504606846976):Spec Tryz.prog 30 #[.pointer (some ⟨s,0,none⟩),.agg (b.v (.slice A m c)).toArray,.int .i64 (k:Int)] [pt s (sgO f path base rows u),rowR 72 6 u rows.length (rows.flatMap SRow.v)]
  fun F v M=>v=.tuple #[]/\∃ u2,M=pt s (sgO f path base (rows++[(⟨b,.slice A m c,k⟩:SRow)]) u2) :: rowR 72 6 u2 (rows++[(⟨b,.slice A m c,k⟩:SRow)]).length ((rows++[(⟨b,.slice A m c,k⟩:SRow)]).flatMap SRow.v) :: F:=by
 refine Spec.intro Tryz.func30 rfl rfl fun B F=>?_
 simp only [Tryz.ntmps30,List.cons_append,List.nil_append,env0,Nat.reduceAdd]
 have hsz:sizR (rows++[(⟨b,.slice A m c,k⟩:SRow)])=sizR rows+k:=by rw [sizR_append];rfl
 refine .sr ?_
 refine .box fun b4=>?_
 refine .z (.seq ?_)
 refine .dr ([pt s (sgO f path base rows u),pt b4 (.cells (b.v (.slice A m c)).toArray 34 (0,0))]) [12] 13 mixed .autoJ ?_
 refine .tk 0 rfl .move ?_
 refine .tk 1 rfl .move ?_
 refine .tk 2 rfl .nilCheck ?_
 refine .tk 3 rfl (.fa fo58_4) ?_
 refine .tk 4 rfl (.ld sc56) ?_
 refine .tk 5 rfl (.ldA agg34) ?_
 refine .tk 6 rfl .move ?_
 refine .tk 7 rfl (.build (bdRow _ _ _ _ _ _ _ _)) ?_
 refine .on 8 rfl fun hnp=>?_
 refine .buildS (fun b14=>?_) (bsRow1 _ _ _ _ _ _ _ _)
 refine .nil (.wa hnp ?_)
 refine .on 9 rfl fun hnp=>?_
 refine .append (v:=u) (m:=1) (k:=rows.length) (xs:=rows.flatMap SRow.v) (news:=SRow.v (⟨b,.slice A m c,k⟩:SRow)) so56 (by decide) (by repeat (first | exact .here | apply Rem.there | apply Repl.there | apply Mem.there)) (Reads.pt (cs:=(SRow.v (⟨b,.slice A m c,k⟩:SRow)).toArray)) (by repeat (first | exact .here | apply Rem.there | apply Repl.there | apply Mem.there)) rfl row_single (by unfold maxLen;omega) (by omega) ⟨_,z72,rfl⟩ (fun u2 hu2=>?_)
 rw [show rows.flatMap SRow.v++SRow.v (⟨b,.slice A m c,k⟩:SRow)=(rows++[(⟨b,.slice A m c,k⟩:SRow)]).flatMap SRow.v by rw [List.flatMap_append,List.flatMap_singleton],show rows.length+1=(rows++[(⟨b,.slice A m c,k⟩:SRow)]).length by simp]
 refine .rowOpen (v:=u2) (hx:=fun h=>by have h1:=congrArg List.length h;rw [flat_length SRow.v_len] at h1;simp at h1) fun A4 c4 hv4 hR4 _ _=>?_
 subst hv4
 refine .nil (.wa hnp ?_)
 refine .on 10 rfl fun hnp=>?_
 refine .nilCheck ?_
 refine .nil (.wa hnp ?_)
 refine .tk 11 rfl (.fa fo58_4) ?_
 refine .on 12 rfl fun hnp=>?_
 refine .st ?_ sc56
 refine .nil (.wb hnp ?_)
 refine .fin ?_
 refine .next (.region (.move ?_))
 refine .nilCheck ?_
 refine .fa ?_ fo58_3
 refine .ld ?_ sc3
 refine .move ?_
 refine .add ?_
 refine .cast (d:=23) (u:=.int .i64 ((sizR (rows++[(⟨b,.slice A m c,k⟩:SRow)]):Nat):Int)) rfl (congrArg (Value.int .i64) (by rw [hsz];omega)) ?_
 refine .nilCheck ?_
 refine .fa ?_ fo58_3
 refine .st ?_ sc3
 refine .nil ?_
 exact .ret0 ⟨_,⟨rfl,.slice (some A4) (rows++[(⟨b,.slice A m c,k⟩:SRow)]).length c4,rfl⟩,Am.auto⟩
end Go.Proofs.YthpdeihndjhjfaaGreatDoor
end
