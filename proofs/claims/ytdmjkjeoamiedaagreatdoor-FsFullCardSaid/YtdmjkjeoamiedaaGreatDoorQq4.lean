/- A part of the proof of lawFsFull: texts of this work put together. -/
import Derived.Test.YtdmjkjeoamiedaaGreatDoorQq3
import Derived.KernelRfl
import Derived.WideKeyRuns
import Derived.Laws.RangeAny
import Derived.Lib.OthersKept
import Derived.Lib.Bytealg
import Derived.Lib.IndexBytes
import Derived.Scope
import Derived.Shelf.SlSortCmp.NoneTotal
import Derived.Laws.Cover1
import Derived.Sort.Walk0
import Derived.WalkKit
import Derived.Defers
import Derived.Lib.IndexLaws
set_option linter.unusedVariables false
set_option linter.unusedSimpArgs false
set_option linter.unusedSectionVars false
section
namespace Go.Proofs.YtdmjkjeoamiedaaGreatDoor
open Go
theorem Spec.later {P:Program} {f:FuncId} {args:Array Value} {X Y Z:HP} {R:List HP->Value->List HP->Prop} (h:Spec P f args [Y,Z] R):Spec P f args [X,Y,Z] fun F v M=>R (X :: F) v M:=fun B F w hs=>h B (X :: F) w (Am.wk Am.auto B w hs)
theorem Spec.last {P:Program} {f:FuncId} {args:Array Value} {X Y Z:HP} {R:List HP->Value->List HP->Prop} (h:Spec P f args [Z] R):Spec P f args [X,Y,Z] fun F v M=>R (X :: Y :: F) v M:=fun B F w hs=>h B (X :: Y :: F) w (Am.wk Am.auto B w hs)
theorem Spec.mid {P:Program} {f:FuncId} {args:Array Value} {X Y Z:HP} {R:List HP->Value->List HP->Prop} (h:Spec P f args [X,Z] R):Spec P f args [X,Y,Z] fun F v M=>R (Y :: F) v M:=fun B F w hs=>h B (Y :: F) w (Am.wk Am.auto B w hs)
structure IP (p:Pl) (F0 F:FM) (W:Nat) (y:(Nat->Bytes)×(Nat->Bytes)×List Nat):Prop where
 r0:Rep p y.1 F0
 r:Rep p y.2.1 F
 dk:Dk p y.2.2
 wt:wt p y.2.2<=W
def inLs (s a c:Nat) (p:Pl) (op:Bool) (y:(Nat->Bytes)×(Nat->Bytes)×List Nat):List HP:=[pt s (stO c a p),pt a (alO c p),TR c p.n y.1 y.2.1 y.2.2 op]
def IN (s a c:Nat) (p:Pl) (F0 F:FM) (W:Nat) (op:Bool):HP:=fun h=>∃ y,IP p F0 F W y/\star (inLs s a c p op y) h
theorem IN.opens (s a c:Nat) (p:Pl) (F0 F:FM) (W:Nat) (op:Bool):Opens (IN s a c p F0 F W op) (IP p F0 F W) (inLs s a c p op):=⟨fun h hh=>hh,fun x hp h hh=>⟨x,hp,hh⟩⟩
attribute [irreducible] IN
def Rw (p:Pl) (W c:Nat):Prop:=p.n<=304 ∨ (p.tb - 245)+W+c<=60
theorem Rw.rm {p:Pl} {W c:Nat} {D:List Nat} (h:Rw p W c) (hw:wt p D<=W):Rm p D c:=by
 unfold Rw at h;unfold Rm
 rcases h with h | h
 ·exact .inl h
 ·exact .inr (by omega)
theorem Spec.re {P:Program} {f:FuncId} {args:Array Value} {L L':List HP} {R:List HP->Value->List HP->Prop} (h:Spec P f args L R) (hk:∀ F,Wk (L'++F) (L++F)):Spec P f args L' R:=fun B F w hs=>h B F w (hk F B w hs)
def cntF (F:FM) (n:Nat):Nat:=cntB (fun i=>(F i).isSome) n
theorem Rep.cntI {p:Pl} {V:Nat->Bytes} {F:FM} (h:Rep p V F):cnt V p.im p.ino=cntF F p.ino:=by
 unfold cntF
 refine cnt_cntB fun k hk=>?_
 rw [h.inv.imap k hk]
 unfold ndOf
 cases F k<;>rfl
theorem Rep.imapF {p:Pl} {V:Nat->Bytes} {F:FM} (h:Rep p V F) {j:Nat} (hj:j < p.ino):dig V p.im j=(F j).isSome:=by
 rw [h.inv.imap j hj]
 unfold ndOf
 cases F j<;>rfl
variable {s a c:Nat} {p:Pl} {F0 F:FM} {W:Nat} {op:Bool}
theorem nMake {i k:Nat} (ho:PlOk p) (hk:k=1 ∨ k=2) (hw:Rw p W 1) (hi:i < p.ino) (h0:F i=none) (hb:∀ j < i,F j≠none):Spec Tryz.prog 145 #[.pointer (some ⟨s,0,none⟩),nI k] [IN s a c p F0 F W true] fun G v M=>v=.tuple #[nI i,.int .i64 0]/\M=IN s a c p F0 (updM F i (some (k,[]))) (W+1) true :: G:=by
 refine Spec.opens (IN.opens s a c p F0 F W true) fun y hy=>(inMake (s:=s) (c:=c) (a:=a) (V0:=y.1) (V:=y.2.1) (D:=y.2.2) (k:=k) ho hk hy.dk (hw.rm hy.wt)).post ?_
 rintro G v M (⟨j,hj,hj0,hjb,rfl,rfl⟩ | ⟨hall,_,_⟩)
 ·rw [hy.r.imapF hj] at hj0
  have hji:j=i:=by
   rcases Nat.lt_trichotomy j i with h1 | h1 | h1
   ·have:=hb j h1
    cases hF:F j with
    | none=>exact absurd hF this
    | some f=>rw [hF] at hj0;cases hj0
   ·exact h1
   ·have:=hjb i h1
    rw [hy.r.imapF hi,h0] at this
    cases this
  subst hji
  have hd:=mkD_ok ho hy.dk hj
  have hw1:=hy.wt
  exact ⟨_,⟨rfl,rfl⟩,Wk.shutR (M:=G) (IN.opens s a c p F0 (updM F j (some (k,[]))) (W+1) true) (y.1,_,mkD p y.2.2 j) ⟨hy.r0,hy.r.made ho hj (by rw [hy.r.imapF hj];exact hj0) hk,hd.1,by show wt p (mkD p y.2.2 j)<=W+1;omega⟩⟩
 ·have:=hall i hi
  rw [hy.r.imapF hi,h0] at this
  cases this
theorem nStat {i:Nat} {f:Nat×Bytes} (ho:PlOk p) (hi:F i=some f):Spec Tryz.prog 156 #[.pointer (some ⟨s,0,none⟩),nI i] [IN s a c p F0 F W op] fun G v M=>v=.tuple #[.agg #[nI f.1,nI f.2.length],.int .i64 0]/\M=IN s a c p F0 F W op :: G:=by
 refine Spec.opens (IN.opens s a c p F0 F W op) fun y hy=>(inStat (s:=s) (c:=c) (a:=a) (V0:=y.1) (V:=y.2.1) (D:=y.2.2) (op:=op) (i:=i) ho (hy.r.lt hi) (hy.r.digI hi)).post ?_
 rintro G v M ⟨rfl,rfl⟩
 have hf:=hy.r.ok i f hi
 rw [hf.kd,hf.sz]
 exact ⟨_,⟨rfl,rfl⟩,Wk.shutR (M:=G) (IN.opens s a c p F0 F W op) y hy⟩
theorem nStatNo {i:Int} (ho:PlOk p) (hi:fileAt F i=none):Spec Tryz.prog 156 #[.pointer (some ⟨s,0,none⟩),.int .i64 i] [IN s a c p F0 F W op] fun G v M=>v=.tuple #[.agg #[nI 0,nI 0],.int .i64 4]/\M=IN s a c p F0 F W op :: G:=by
 refine Spec.opens (IN.opens s a c p F0 F W op) fun y hy=>(inStatNo (s:=s) (c:=c) (a:=a) (V0:=y.1) (V:=y.2.1) (D:=y.2.2) (op:=op) (i:=i) ho (hy.r.nope hi)).post ?_
 rintro G v M ⟨rfl,rfl⟩
 exact ⟨_,⟨rfl,rfl⟩,Wk.shutR (M:=G) (IN.opens s a c p F0 F W op) y hy⟩
theorem nRead {i at' k:Nat} {f:Nat×Bytes} (ho:PlOk p) (hi:F i=some f) (hat:at'<=9223372036854775807) (hk:k<=9223372036854775807):Spec Tryz.prog 107 #[.pointer (some ⟨s,0,none⟩),nI i,nI at',nI k] [IN s a c p F0 F W op] fun G v M=>∃ u,v=.tuple #[u,.int .i64 0]/\M=rowR 5 1 u ((f.2.drop at').take k).length (bvs ((f.2.drop at').take k)) :: IN s a c p F0 F W op :: G:=by
 refine Spec.opens (IN.opens s a c p F0 F W op) fun y hy=>(inRead (s:=s) (c:=c) (a:=a) (V0:=y.1) (V:=y.2.1) (D:=y.2.2) (op:=op) hy.r ho hi hat hk).post ?_
 rintro G v M ⟨u,rfl,rfl⟩
 exact ⟨_,⟨u,rfl,rfl⟩,fun B w hs=>Sat.front (.there .here) (Sat.shuts (M:=rowR _ _ _ _ _ :: G) (IN.opens s a c p F0 F W op) hy (Am.wk Am.auto B w hs))⟩
theorem nWrite {i at' m cc:Nat} {f:Nat×Bytes} {R:HP} {A:Option Addr} {bs:Bytes} (ho:PlOk p) (hi:F i=some f) (hw:Rw p W (has (max f.2.length (at'+m)) - has f.2.length+(m+511) / 512+10)) (hR:bs=[] ∨ Reads R A (bvs bs)) (hm:bs.length=m) (hcc:m<=cc) (hcb:cc<=maxLen) (hat:at'<=f.2.length) (hbg:at'+m<=70656) (hfit:tot F p.ino+has (max f.2.length (at'+m))<=p.dc+has f.2.length) :
  Spec Tryz.prog 71 #[.pointer (some ⟨s,0,none⟩),nI i,nI at',.slice A m cc] [IN s a c p F0 F W true,R] fun G v M=>v=okV/\M=IN s a c p F0 (updM F i (some (f.1,wrB f.2 at' bs))) (W+(has (max f.2.length (at'+m)) - has f.2.length)+(m+511) / 512+5) true :: R :: G:=by
 refine Spec.opens (IN.opens s a c p F0 F W true) fun y hy=>((inWrite (s:=s) (c:=c) (a:=a) (V0:=y.1) (V:=y.2.1) (D:=y.2.2) (cc:=cc) hy.r ho hi hy.dk (hw.rm hy.wt) hR hm hcc hcb hat hbg).re (fun G B w hs=>Sat.front (.there (.there (.there .here))) hs)).post ?_
 rintro G v M (⟨hfull,rfl,rfl⟩ | ⟨hle,V1,D1,hrep,⟨hdk,hwt⟩,rfl,rfl⟩)
 ·omega
 ·have hw1:=hy.wt
  exact ⟨_,⟨rfl,rfl⟩,Wk.trans (Am.wk Am.auto) (Wk.shutR (M:=R :: G) (IN.opens s a c p F0 (updM F i (some (f.1,wrB f.2 at' bs))) (W+(has (max f.2.length (at'+m)) - has f.2.length)+(m+511) / 512+5) true) (y.1,V1,D1) ⟨hy.r0,hrep,hdk,by show wt p D1<=_;omega⟩)⟩
theorem nWriteFull {i at' m cc:Nat} {f:Nat×Bytes} {R:HP} {A:Option Addr} {bs:Bytes} (ho:PlOk p) (hi:F i=some f) (hw:Rw p W (has (max f.2.length (at'+m)) - has f.2.length+(m+511) / 512+10)) (hR:bs=[] ∨ Reads R A (bvs bs)) (hm:bs.length=m) (hcc:m<=cc) (hcb:cc<=maxLen) (hat:at'<=f.2.length) (hbg:at'+m<=70656) (hfit:p.dc+has f.2.length < tot F p.ino+has (max f.2.length (at'+m))) :
  Spec Tryz.prog 71 #[.pointer (some ⟨s,0,none⟩),nI i,nI at',.slice A m cc] [IN s a c p F0 F W true,R] fun G v M=>v=.int .i64 3/\M=IN s a c p F0 F W true :: R :: G:=by
 refine Spec.opens (IN.opens s a c p F0 F W true) fun y hy=>((inWrite (s:=s) (c:=c) (a:=a) (V0:=y.1) (V:=y.2.1) (D:=y.2.2) (cc:=cc) hy.r ho hi hy.dk (hw.rm hy.wt) hR hm hcc hcb hat hbg).re (fun G B w hs=>Sat.front (.there (.there (.there .here))) hs)).post ?_
 rintro G v M (⟨hfull,rfl,rfl⟩ | ⟨hle,V1,D1,hrep,⟨hdk,hwt⟩,rfl,rfl⟩)
 ·exact ⟨_,⟨rfl,rfl⟩,Wk.trans (Am.wk Am.auto) (Wk.shutR (M:=R :: G) (IN.opens s a c p F0 F W true) y hy)⟩
 ·omega
theorem nTrunc {i size:Nat} {f:Nat×Bytes} (ho:PlOk p) (hi:F i=some f) (hw:Rw p W (has size - has f.2.length+8)) (hbg:size<=70656) (hfit:tot F p.ino+has size<=p.dc+has f.2.length):Spec Tryz.prog 126 #[.pointer (some ⟨s,0,none⟩),nI i,nI size] [IN s a c p F0 F W true] fun G v M=>v=okV/\M=IN s a c p F0 (updM F i (some (f.1,trB f.2 size))) (W+(has size - has f.2.length)+4) true :: G:=by
 refine Spec.opens (IN.opens s a c p F0 F W true) fun y hy=>(inTrunc (s:=s) (c:=c) (a:=a) (V0:=y.1) (V:=y.2.1) (D:=y.2.2) hy.r ho hi hy.dk (hw.rm hy.wt) hbg).post ?_
 rintro G v M (⟨hfull,rfl,rfl⟩ | ⟨hle,V1,D1,hrep,⟨hdk,hwt⟩,rfl,rfl⟩)
 ·omega
 ·have hw1:=hy.wt
  exact ⟨_,⟨rfl,rfl⟩,Wk.shutR (M:=G) (IN.opens s a c p F0 (updM F i (some (f.1,trB f.2 size))) (W+(has size - has f.2.length)+4) true) (y.1,V1,D1) ⟨hy.r0,hrep,hdk,by show wt p D1<=_;omega⟩⟩
theorem nDrop {i:Nat} {f:Nat×Bytes} (ho:PlOk p) (hi:F i=some f) (hi0:i≠0) (hw:Rw p W 1):Spec Tryz.prog 105 #[.pointer (some ⟨s,0,none⟩),nI i] [IN s a c p F0 F W true] fun G v M=>v=okV/\M=IN s a c p F0 (updM F i none) W true :: G:=by
 refine Spec.opens (IN.opens s a c p F0 F W true) fun y hy=>(inDrop (s:=s) (c:=c) (a:=a) (V0:=y.1) (V:=y.2.1) (D:=y.2.2) hy.r ho hi hi0 hy.dk (hw.rm hy.wt)).post ?_
 rintro G v M ⟨V1,D1,hrep,⟨hdk,hwt⟩,rfl,rfl⟩
 have hw1:=hy.wt
 exact ⟨_,⟨rfl,rfl⟩,Wk.shutR (M:=G) (IN.opens s a c p F0 (updM F i none) (W) true) (y.1,V1,D1) ⟨hy.r0,hrep,hdk,by show wt p D1<=W;omega⟩⟩
theorem nFree (ho:PlOk p):Spec Tryz.prog 112 #[.pointer (some ⟨a,0,none⟩)] [IN s a c p F0 F W op] fun G v M=>v=.tuple #[.int .i64 ((p.dc:Int) - tot F p.ino),.int .i64 ((p.ino:Int) - cntF F p.ino)]/\M=IN s a c p F0 F W op :: G:=by
 refine Spec.opens (IN.opens s a c p F0 F W op) fun y hy=>((alFree (a:=a) (c:=c) (V0:=y.1) (V:=y.2.1) (D:=y.2.2) (op:=op) ho).later).post ?_
 rintro G v M ⟨rfl,rfl⟩
 rw [hy.r.cn,hy.r.cntI]
 exact ⟨_,⟨rfl,rfl⟩,Wk.trans (Am.wk Am.auto) (Wk.shutR (M:=G) (IN.opens s a c p F0 F W op) y hy)⟩
theorem nCommit (ho:PlOk p:=by assumption):Spec Tryz.prog 139 #[.pointer (some ⟨c,0,none⟩)] [IN s a c p F0 F W true] fun G v M=>v=okV/\M=IN s a c p F F 0 false :: G:=by
 refine Spec.opens (IN.opens s a c p F0 F W true) fun y hy=>((tCommit (c:=c) (n:=p.n) (V0:=y.1) (V:=y.2.1) (D:=y.2.2)).last).post ?_
 rintro G v M ⟨rfl,rfl⟩
 exact ⟨_,⟨rfl,rfl⟩,Wk.trans (Am.wk Am.auto) (Wk.shutR (M:=G) (IN.opens s a c p F F 0 false) (cm0 y.2.1,y.2.1,[]) ⟨hy.r.cm ho,hy.r,Dk.nil p,Nat.zero_le _⟩)⟩
theorem nAbort :Spec Tryz.prog 170 #[.pointer (some ⟨c,0,none⟩)] [IN s a c p F0 F W true] fun G v M=>v=okV/\M=IN s a c p F0 F0 0 false :: G:=by
 refine Spec.opens (IN.opens s a c p F0 F W true) fun y hy=>((tAbort (c:=c) (n:=p.n) (V0:=y.1) (V:=y.2.1) (D:=y.2.2)).last).post ?_
 rintro G v M ⟨rfl,rfl⟩
 exact ⟨_,⟨rfl,rfl⟩,Wk.trans (Am.wk Am.auto) (Wk.shutR (M:=G) (IN.opens s a c p F0 F0 0 false) (y.1,y.1,[]) ⟨hy.r0,hy.r0,Dk.nil p,Nat.zero_le _⟩)⟩
theorem nBegin :Spec Tryz.prog 133 #[.pointer (some ⟨c,0,none⟩)] [IN s a c p F0 F W false] fun G v M=>v=okV/\M=IN s a c p F0 F W true :: G:=by
 refine Spec.opens (IN.opens s a c p F0 F W false) fun y hy=>((tBegin (c:=c) (n:=p.n) (V0:=y.1) (V:=y.2.1) (D:=y.2.2)).last).post ?_
 rintro G v M ⟨rfl,rfl⟩
 exact ⟨_,⟨rfl,rfl⟩,Wk.trans (Am.wk Am.auto) (Wk.shutR (M:=G) (IN.opens s a c p F0 F W true) y hy)⟩
def rootM:FM:=fun i=>if i=0 then some (2,[]) else none
def freshW (p:Pl):Nat->Bytes:=svV p (freshV p) 0 ⟨2,0,List.replicate 11 0⟩
theorem fresh_len5 {p:Pl}:Len5 (freshV p):=fun k=>by
 unfold freshV fmtA
 rw [fmtV_at]
 split
 ·exact fmtZ_length _ _ _
 ·rw [fmtV_at]
  split
  ·exact fmtZ_length _ _ _
  ·exact zeros_length
theorem fresh_rep {p:Pl} (h:PlIs p):Rep p (freshW p) rootM:=by
 have ho:=h.ok
 have hlo:=ho.lo
 have htd:=ho.tbda
 have hi1:=ho.i1
 have hi2:=ho.i2
 have htab:=ho.tab
 have hfx:Fits ⟨2,0,List.replicate 11 0⟩:=kFits (by decide)
 have hld:ldN p (freshW p) 0=⟨2,0,List.replicate 11 0⟩:=ldN_svV fresh_len5 hfx
 have hnd:∀ i x S,ndOf p (freshW p) rootM i=some (x,S)->i=0/\x=⟨2,0,List.replicate 11 0⟩/\∀ k,S k=false:=by
  intro i x S hi
  unfold ndOf rootM at hi
  by_cases h0:i=0
  ·subst h0
   rw [if_pos rfl] at hi
   have hi':some (ldN p (freshW p) 0,stdS (dat ([]:Bytes).length))=some (x,S):=hi
   injection hi' with hi'
   injection hi' with e1 e2
   exact ⟨rfl,by rw [<- e1,hld],fun k=>by rw [<- e2];exact stdS_zero k⟩
  ·rw [if_neg h0] at hi;cases hi
 have hV:∀ v,v < p.tb->freshW p v=freshV p v:=fun v hv=>wr_other _ _ (by omega)
 have hbm:∀ k,k < p.dc->dig (freshW p) p.bm k=false:=fun k hk=>by
  have:=ho.mapAt hk
  rw [<- fresh_bm h hk]
  unfold dig
  rw [hV _ (by omega)]
 refine ⟨⟨svV_len fresh_len5 _ _,?_,?_,?_,?_,?_,?_,?_⟩,?_,?_,rfl⟩
 ·intro i x S hi;obtain ⟨_,h2,_⟩:=hnd i x S hi;rw [h2];exact hfx
 ·intro i x S hi;obtain ⟨_,_,h3⟩:=hnd i x S hi;exact ⟨fun k hk=>(by rw [h3 k] at hk;cases hk),fun k hk=>(by rw [h3 k] at hk;cases hk)⟩
 ·intro i x S hi;obtain ⟨h1,_,_⟩:=hnd i x S hi;omega
 ·intro i x S k hi hk;obtain ⟨_,_,h3⟩:=hnd i x S hi;rw [h3 k] at hk;cases hk
 ·intro i x S k j y T l hi hk;obtain ⟨_,_,h3⟩:=hnd i x S hi;rw [h3 k] at hk;cases hk
 ·intro b hb
  rw [hbm b hb]
  refine ⟨fun hh=>(by cases hh),?_⟩
  rintro ⟨i,x,S,k,hi,hk,_⟩
  obtain ⟨_,_,h3⟩:=hnd i x S hi
  rw [h3 k] at hk;cases hk
 ·intro i hi
  have h1:dig (freshW p) p.im i=decide (i=0):=by
   rw [<- fresh_im h hi]
   unfold dig
   rw [hV _ (by omega)]
  rw [h1]
  unfold ndOf rootM
  by_cases h0:i=0
  ·rw [if_pos h0,decide_eq_true h0];rfl
  ·rw [if_neg h0,decide_eq_false h0];rfl
 ·intro i f hi
  unfold rootM at hi
  by_cases h0:i=0
  ·subst h0
   rw [if_pos rfl] at hi
   cases hi
   rw [hld]
   exact ⟨rfl,.inr rfl,rfl,Nat.zero_le _,fun q hq=>by cases hq⟩
  ·rw [if_neg h0] at hi;cases hi
 ·have h1:∀ n,tot rootM n=0:=by
   intro n
   induction n with
   | zero=>rfl
   | succ n ih =>
    unfold tot
    rw [ih]
    unfold rootM
    by_cases h0:n=0
    ·rw [if_pos h0];rfl
    ·rw [if_neg h0];rfl
  rw [h1]
  unfold cnt
  rw [List.filter_eq_nil_iff.2 (fun k hk=>by rw [hbm k (List.mem_range.1 hk)];decide)]
  rfl
theorem tot_root (n:Nat):tot rootM n=0:=by
 induction n with
 | zero=>rfl
 | succ n ih =>
  unfold tot
  rw [ih]
  unfold rootM
  by_cases h0:n=0
  ·rw [if_pos h0];rfl
  ·rw [if_neg h0];rfl
end Go.Proofs.YtdmjkjeoamiedaaGreatDoor
end
section
namespace Go.Proofs.YtdmjkjeoamiedaaGreatDoor
open Go
section
variable {P:Program} {B:Base} {n:Fr} {Q Q':Exit->Act->World->Prop} {e:Env} {L:List HP} {ops:Array Oper} {l:List Oper}
variable {d:Nat} {ty:TypeId} {pos:String} {af:Array Edge} {x y z:Operand} {gd:Option (Nat×Bool)}
theorem Qt.maxI {p q:Int} {tys:Array TypeId} (hx:evo e x=some (.int .i64 p):=by rfl) (hy:evo e y=some (.int .i64 q):=by rfl) :
  Qt P B n e L ⟨some d,.call ⟨.builtin .max,#[x,y],tys⟩,ty,pos,af,gd⟩ (.int .i64 (if p < q then q else p)) :=
 fun a w ha hs=>by
  simp [execOp,resolve,invoke,builtin,ha.eval hx,ha.eval hy,Builtin.max_,Builtin.max2]
theorem WL.maxI {p q:Int} {tys:Array TypeId} (h:WL P B n ops l Q ((d,.int .i64 (if p < q then q else p)) :: e) L) (hx:evo e x=some (.int .i64 p):=by rfl) (hy:evo e y=some (.int .i64 q):=by rfl) (hd:Nat.ble (d+1) n.k=true:=by rfl) :
  WL P B n ops (⟨some d,.call ⟨.builtin .max,#[x,y],tys⟩,ty,pos,af,none⟩ :: l) Q e L:=WL.pure h hd (Qt.maxI (hx:=hx) (hy:=hy))
end
section
variable {P:Program}
def arrIntOk (P:Program) (t el k:Nat):Bool:=arrOk P t el k 1 && intAny P el
theorem arrInt_of {t el k:Nat} (h:arrIntOk P t el k=true):P.underlying t=some (.array k el)/\(∃ i,P.info? el=some i/\i.size=1)/\intAny P el=true:=by
 unfold arrIntOk at h
 rw [Bool.and_eq_true] at h
 obtain ⟨h1,h2⟩:=arr_of h.1
 exact ⟨h1,h2,h.2⟩
theorem cellsOf_of {el:Nat} {i:TypeInfo} (hi:P.info? el=some i):P.cellsOf el=i.size:=by
 unfold Program.cellsOf
 simp [hi]
theorem bvs_at {xs:Bytes} {i:Nat} (h:i < xs.length):(bvs xs).toArray[i]?=some (bv xs[i]):=by
 simp [bvs,h]
theorem run_eqItems_bytes {el:Nat} (hk:intAny P el=true) (d:Nat) (xs ys:Bytes) (w:World):∀ (is:List Nat),(∀ i∈is,i < xs.length/\i < ys.length) ->
  (Op.eqItems (d+1) el 1 (bvs xs).toArray (bvs ys).toArray is).run P w=.ok (decide (∀ i∈is,xs[i]?=ys[i]?)) w
 | [],_=>by simp [Op.eqItems]
 | i :: is,h=>by
  obtain ⟨hx,hy⟩:=h i (List.mem_cons_self ..)
  have px:=run_part_int (P:=P) hk (cs:=(bvs xs).toArray) (i:=i) (bvs_at hx) w
  have py:=run_part_int (P:=P) hk (cs:=(bvs ys).toArray) (i:=i) (bvs_at hy) w
  obtain ⟨k,hu⟩:=int_any hk
  have pe:=run_equalIn_int (P:=P) w d el .u8 k (xs[i].toNat:Int) (ys[i].toNat:Int) hu
  have ih:=run_eqItems_bytes hk d xs ys w is (fun j hj=>h j (List.mem_cons_of_mem _ hj))
  rw [Op.eqItems,Nat.mul_one]
  simp only [Sem.run_bind,px,py,Result.andThen_ok]
  rw [show bv xs[i]=.int .u8 (xs[i].toNat:Int) from rfl,show bv ys[i]=.int .u8 (ys[i].toNat:Int) from rfl,pe]
  simp only [Result.andThen_ok]
  by_cases hxy:xs[i]=ys[i]
  ·rw [hxy]
   simp only [beq_self_eq_true,decide_true,Bool.not_true,Bool.false_eq_true,if_false]
   rw [ih]
   congr 1
   rw [decide_eq_decide]
   simp [hx,hy,hxy]
  ·have hne:¬ ((xs[i].toNat:Int)=(ys[i].toNat:Int)):=fun hh=>hxy (UInt8.toNat_inj.1 (by omega))
   have:¬ (∀ j∈i :: is,xs[j]?=ys[j]?):=fun hh=>hxy (by
    have:=hh i (List.mem_cons_self ..)
    rwa [List.getElem?_eq_getElem hx,List.getElem?_eq_getElem hy,Option.some.injEq] at this)
   rw [decide_eq_false this]
   simp [hne]
theorem run_equal_bytes {t el n:Nat} (h:arrIntOk P t el n=true) (d:Nat) {xs ys:Bytes} (hx:xs.length=n) (hy:ys.length=n) (w:World) :
  (Op.equalIn (d+2) t (.agg (bvs xs).toArray) (.agg (bvs ys).toArray)).run P w=.ok (decide (xs=ys)) w:=by
 obtain ⟨hu,⟨i,hi,hs⟩,hk⟩:=arrInt_of h
 rw [run_equalIn_array w (d+1) _ _ hu hi,cellsOf_of hi,hs,run_eqItems_bytes hk d xs ys w _ (fun j hj=>by have:=List.mem_range.1 hj;omega)]
 congr 1
 rw [decide_eq_decide]
 constructor
 ·intro hh
  apply List.ext_getElem?
  intro j
  by_cases hj:j < n
  ·exact hh j (List.mem_range.2 hj)
  ·rw [List.getElem?_eq_none (by omega),List.getElem?_eq_none (by omega)]
 ·intro hh j _
  rw [hh]
theorem run_check_items (emp:Bool) (m:Nat) {el:Nat} {i:TypeInfo} (hi:P.info? el=some i) (hs:i.size=1) (hk:intAny P el=true) (xs:Bytes) (w:World):∀ (is:List Nat),(∀ j∈is,j < xs.length) ->
  (forIn (m:=Sem) is PUnit.unit (fun i _=>do
   Instr.checkKey emp (m+1) el (<- part el (bvs xs).toArray (i * (<- sizeOf el)))
   pure (ForInStep.yield PUnit.unit))).run P w=.ok PUnit.unit w
 | [],_=>by simp
 | j :: is,h=>by
  have px:=run_part_int (P:=P) hk (cs:=(bvs xs).toArray) (i:=j) (bvs_at (h j (List.mem_cons_self ..))) w
  obtain ⟨k,hu⟩:=int_any hk
  have pc:=checkKey_int hu emp m .u8 (xs[j]'(h j (List.mem_cons_self ..))).toNat w
  have ih:=run_check_items emp m hi hs hk xs w is (fun q hq=>h q (List.mem_cons_of_mem _ hq))
  simp only [List.forIn_cons,Sem.run_bind,run_sizeOf w hi,Result.andThen_ok,cellsOf_of hi,hs,Nat.mul_one,px]
  rw [show bv (xs[j]'(h j (List.mem_cons_self ..)))=.int .u8 ((xs[j]'(h j (List.mem_cons_self ..))).toNat:Int) from rfl,pc]
  simp only [Result.andThen_ok,Sem.run_pure]
  exact ih
theorem run_check_bytes {t el n:Nat} (h:arrIntOk P t el n=true) (emp:Bool) (m:Nat) {xs:Bytes} (hx:xs.length=n) (w:World):(Instr.checkKey emp (m+2) t (.agg (bvs xs).toArray)).run P w=.ok () w:=by
 obtain ⟨hu,⟨i,hi,hs⟩,hk⟩:=arrInt_of h
 have:=run_check_items (P:=P) emp m hi hs hk xs w (List.range' 0 n) (fun j hj=>by have:=List.mem_range'.1 hj;omega)
 rw [Instr.checkKey]
 simp only [Sem.run_bind,run_underlying hu,Result.andThen_ok]
 simp only [Std.Legacy.Range.forIn_eq_forIn_range',Std.Legacy.Range.size,Nat.sub_zero,Nat.add_one_sub_one,Nat.div_one]
 rw [this]
 rfl
theorem sameBits_bytes (n:Nat) (xs:Bytes):Instr.sameBits (n+1) (.agg (bvs xs).toArray) (.agg (bvs xs).toArray)=true:=by
 simp only [Instr.sameBits,beq_self_eq_true,Bool.true_and,List.all_eq_true]
 intro p hp
 have:∀ (l:List Value),p∈l.zip l->p.1=p.2/\p.1∈l:=by
  intro l
  induction l with
  | nil=>intro h;cases h
  | cons a l ih =>
   intro h
   simp only [List.zip_cons_cons,List.mem_cons] at h
   rcases h with rfl | h
   ·simp
   ·have:=ih h
    exact ⟨this.1,List.mem_cons_of_mem _ this.2⟩
 obtain ⟨h1,h2⟩:=this _ hp
 simp only [List.toList_toArray,bvs,List.mem_map] at h2
 obtain ⟨a,_,ha⟩:=h2
 obtain ⟨x,y⟩:=p
 simp only at h1 ha ⊢
 subst h1
 rw [<- ha]
 exact sameBits_int _ _ _
theorem arrKeys {κ:Type} [DecidableEq κ] (f:κ->Bytes) {kt el n:Nat} (h:arrIntOk P kt el n=true) (hf:∀ k,(f k).length=n) (inj:∀ a b,f a=f b->a=b):KeyLaw P kt (fun k=>Value.agg (bvs (f k)).toArray) where
 check emp k w:=run_check_bytes h emp 9998 (hf k) w
 find k ks es w hk:=by
  obtain ⟨h1,_⟩:=arrInt_of h
  have hask:∀ (ks:List κ) (es:List MapEntry) (i:Nat) (w:World),es.map (·.key)=ks.map (fun k=>Value.agg (bvs (f k)).toArray) ->
    (Instr.findAsking kt (Value.agg (bvs (f k)).toArray) es i).run P w=.ok (findPure k ks es i) w:=by
   intro ks
   induction ks with
   | nil =>
    intro es i w h
    have:es=[]:=by simpa using h
    subst this
    simp [Instr.findAsking,findPure]
   | cons k' ks ih =>
    intro es i w h'
    cases es with
    | nil=>simp at h'
    | cons e es =>
     simp only [List.map_cons,List.cons.injEq] at h'
     have he:(Op.equal kt (Value.agg (bvs (f k)).toArray) e.key).run P w=.ok (decide (f k=f k')) w:=by
      rw [h'.1]
      exact run_equal_bytes h 9998 (hf k) (hf k') w
     simp only [Instr.findAsking,Sem.run_bind,he,Result.andThen_ok,findPure]
     by_cases hkk:k=k'
     ·subst hkk;simp
     ·have:¬ f k=f k':=fun e=>hkk (inj _ _ e)
      simp only [this,decide_false,Bool.false_eq_true,if_false,hkk]
      exact ih es (i+1) w h'.2
  rw [run_findKey_eq w (by rw [h1])]
  exact hask ks es 0 w hk
 stays k:=sameBits_bytes _ _
end
def bstr (xs:Bytes):ByteArray:=⟨xs.toArray⟩
theorem bstr_size (xs:Bytes):(bstr xs).size=xs.length:=by simp [bstr,ByteArray.size]
theorem bstr_get {xs:Bytes} {i:Nat} (h:i < (bstr xs).size):(bstr xs)[i]=xs[i]'(by rw [bstr_size] at h;exact h):=by
 have h1:=Lib.data_getElem? (bstr xs) i h
 have h2:(bstr xs).data.toList=xs:=rfl
 rw [h2,List.getElem?_eq_getElem (by rw [bstr_size] at h;exact h),Option.some.injEq] at h1
 exact h1.symm
theorem sv_bstr (xs:Bytes):sv xs=.string (bstr xs):=rfl
section
variable {P:Program} {B:Base} {n:Fr} {Q Q':Exit->Act->World->Prop} {e:Env} {L:List HP} {ops:Array Oper} {l:List Oper}
variable {d:Nat} {ty:TypeId} {pos:String} {af:Array Edge} {x y z:Operand} {gd:Option (Nat×Bool)}
theorem Qt.lenT {t:TypeId} (xs:Bytes) (ht:strOk P t=true) (hx:evo e x=some (sv xs):=by rfl) :
  Qt P B n e L ⟨some d,.call ⟨.builtin .len,#[x],#[t]⟩,ty,pos,af,gd⟩ (.int .i64 (xs.length:Int)) :=
 fun a w ha hs=>by
  simp [execOp,resolve,invoke,builtin,ha.eval hx,Builtin.len_,run_underlying (str_of ht),sv_bstr,bstr_size,goInt]
theorem WL.lenT {t:TypeId} (xs:Bytes) (h:WL P B n ops l Q ((d,.int .i64 (xs.length:Int)) :: e) L) (ht:strOk P t=true) (hx:evo e x=some (sv xs):=by rfl) (hd:Nat.ble (d+1) n.k=true:=by rfl) :
  WL P B n ops (⟨some d,.call ⟨.builtin .len,#[x],#[t]⟩,ty,pos,af,none⟩ :: l) Q e L:=WL.pure h hd (Qt.lenT xs ht hx)
theorem Qt.ixT {t:Nat} {p:Int} {kk:IntKind} {v:UInt8} (xs:Bytes) (ht:strOk P t=true) (hv:xs[p.toNat]?=some v) (hx:evo e x=some (sv xs):=by rfl) (hy:evo e y=some (.int kk p):=by rfl) (hp:0<=p:=by omega) :
  Qt P B n e L ⟨some d,.index t x y,ty,pos,af,gd⟩ (.int .u8 (v.toNat:Int)) :=
 fun a w ha hs=>by
  have h1:(bstr xs)[p.toNat]?=some v:=by
   have hlt:p.toNat < xs.length:=(List.getElem?_eq_some_iff.1 hv).1
   rw [getElem?_pos (bstr xs) p.toNat (by rw [bstr_size];exact hlt),bstr_get]
   rw [List.getElem?_eq_getElem hlt] at hv
   exact hv
  simp [execOp,ha.eval hx,ha.eval hy,Instr.index,asIntOf,run_underlying (str_of ht),sv_bstr,hp,h1]
theorem WL.ixT {t:Nat} {p:Int} {kk:IntKind} {v:UInt8} (xs:Bytes) (h:WL P B n ops l Q ((d,.int .u8 (v.toNat:Int)) :: e) L) (ht:strOk P t=true) (hv:xs[p.toNat]?=some v) (hx:evo e x=some (sv xs):=by rfl) (hy:evo e y=some (.int kk p):=by rfl) (hp:0<=p:=by omega) (hd:Nat.ble (d+1) n.k=true:=by rfl) :
  WL P B n ops (⟨some d,.index t x y,ty,pos,af,none⟩ :: l) Q e L:=WL.pure h hd (Qt.ixT xs ht hv hx hy hp)
def strIt (it:Nat) (xs:Bytes) (k:Nat):HP:=pt it (.stringIter (bstr xs) k)
theorem WL.rangeT {t:Nat} (xs:Bytes) (ht:strOk P t=true) (h:∀ it,WL P B n ops l Q ((d,.pointer (some ⟨it,0,none⟩)) :: e) (strIt it xs 0 :: L)) (hx:evo e x=some (sv xs):=by rfl) (hd:Nat.ble (d+1) n.k=true:=by rfl) :
  WL P B n ops (⟨some d,.range t x,ty,pos,af,none⟩ :: l) Q e L :=
 WL.step rfl fun a w ha hs=>by
  refine ⟨_,w.alloc (.stringIter (bstr xs) 0),_,_,?_,ha.put hd _,hs.new _,h w.heap.size⟩
  simp [execOp,ha.eval hx,Instr.range,run_underlying (str_of ht),newObj,Sem.run,sv_bstr]
def rune (xs:Bytes) (k:Nat):Nat×Nat:=Utf8.decode (bstr xs) k
theorem WL.nextT {it k:Nat} (xs:Bytes) {M:List HP}
  (h0:¬ k < xs.length->WL P B n ops l Q ((d,.tuple #[.bool false]) :: e) (strIt it xs k :: M))
  (h1:k < xs.length->WL P B n ops l Q ((d,.tuple #[.bool true,.int .i64 (k:Int),.int .i32 ((rune xs k).1:Int)]) :: e) (strIt it xs (k+(rune xs k).2) :: M))
  (hx:evo e x=some (.pointer (some ⟨it,0,none⟩)):=by rfl) (r:Rem L (strIt it xs k) M:=by repeat (first | exact .here | apply Rem.there)) (hd:Nat.ble (d+1) n.k=true:=by rfl) :
  WL P B n ops (⟨some d,.next x true,ty,pos,af,none⟩ :: l) Q e L :=
 WL.step rfl fun a w ha hs=>by
  have hs1:=hs.front r
  have hb:=hs1.get .here
  by_cases hk:k < xs.length
  ·refine ⟨_,_,_,_,?_,ha.put hd _,hs1.set (o':=.stringIter (bstr xs) (k+(rune xs k).2)) .here,h1 hk⟩
   have:=Lib.run_next_any_at (P:=P) w it (bstr xs) k ty hb (by rw [bstr_size];exact hk)
   simp only [execOp,ha.eval hx,Sem.run_bind,this,Result.andThen_ok,Sem.run_pure]
   rfl
  ·refine ⟨_,w,_,_,?_,ha.put hd _,hs1,h0 hk⟩
   have:=Lib.run_next_end_at (P:=P) w it (bstr xs) k ty hb (by rw [bstr_size];exact hk)
   simp only [execOp,ha.eval hx,Sem.run_bind,this,Result.andThen_ok,Sem.run_pure]
theorem WL.callX {f:FuncId} {xs:List Operand} {tys:Array TypeId} {vs:List Value} {v:Value} (hx:evos e xs=some vs:=by rfl)
  (hc:∀ w,(callFunc f vs.toArray).run P w=.ok (.value v) w) (h:WL P B n ops l Q ((d,v) :: e) L) (hd:Nat.ble (d+1) n.k=true:=by rfl) :
  WL P B n ops (⟨some d,.call ⟨.value (.func f),xs.toArray,tys⟩,ty,pos,af,none⟩ :: l) Q e L:=by
 intro a w ha hs
 refine wpList_plain rfl fun K hK=>?_
 have hargs:xs.map a.eval=vs:=evos_eval ha hx
 have hrun:(execOp a.eval ⟨some d,.call ⟨.value (.func f),xs.toArray,tys⟩,ty,pos,af,none⟩).run P w=.ok (.value v) w:=by
  have he:a.eval (.func f)=.func (.func f) #[] #[]:=rfl
  simp [execOp,resolve,Deferred.ofValue,he,invoke,hargs,hc]
 unfold Oper.wp
 rw [hrun]
 simp only [Oper.upon_value]
 exact hK _ _ (h _ w (ha.put hd v) hs)
theorem Qt.subT {t:Nat} {p:Int} (xs:Bytes) (ht:strOk P t=true) (hx:evo e x=some (sv xs):=by rfl) (hy:evo e y=some (.int .i64 p):=by rfl) (hp:0<=p/\p<=xs.length:=by omega) :
  Qt P B n e L ⟨some d,.slice t x (some y) none none,ty,pos,af,gd⟩ (sv (xs.drop p.toNat)) :=
 fun a w ha hs=>by
  have h1:(bstr xs).extract p.toNat xs.length=bstr (xs.drop p.toNat):=by
   apply ByteArray.ext
   simp [bstr,ByteArray.data_extract,List.take_of_length_le]
  simp [execOp,ha.eval hx,ha.eval hy,Instr.sliceAt,Instr.sureAddr,Instr.slice,Instr.sliceBounds,Instr.sliceBound,asIntOf,run_underlying (str_of ht),sv_bstr,hp,h1,bstr_size]
theorem WC.scope {c:Code} (h:WC P B n c (Exit.noGoto Q) e L):WC P B n (.scope c) Q e L:=fun a w ha hs=>wp_scope_straight (h a w ha hs)
theorem WC.label {k:Nat} (h:WQ B n Q .normal e L):WC P B n (.label k) Q e L:=fun a w ha hs=>wp_label (h a w ha hs)
theorem WQ.scopeRet (h:WQ B n Q .ret e L):WQ B n (Exit.noGoto Q) .ret e L:=fun a w ha hs=>h a w ha hs
theorem NoPanic.scope (h:NoPanic Q):NoPanic (Exit.noGoto Q):=h
theorem NoPanic.autoS (h:NoPanic Q:=by repeat (first | exact NoPanic.body | refine NoPanic.then ?_ | refine NoPanic.block ?_ | refine NoPanic.join ?_ | refine NoPanic.scope ?_)):NoPanic Q:=h
theorem Qt.cvtRT {s t:Nat} {k kk:IntKind} {p:Int} (hs:P.underlying s=some (.int k)) (ht:strOk P t=true) (hx:evo e x=some (.int kk p):=by rfl) :
  Qt P B n e L ⟨some d,.convert s t x,ty,pos,af,gd⟩ (sv (Utf8.encode p).data.toList) :=
 fun a w ha hs'=>by
  have:(convert s t (.int kk p)).run P w=.ok (.string (Utf8.encode p)) w:=by
   simp [convert,run_underlying hs,run_underlying (str_of ht),Conv.intToString]
  simp only [execOp,ha.eval hx,Sem.run_bind,this,Result.andThen_ok,Sem.run_pure]
  rfl
end
section
variable {P:Program} {B:Base} {n:Fr} {Q Q':Exit->Act->World->Prop} {e:Env} {L:List HP} {ops:Array Oper} {l:List Oper}
variable {d:Nat} {ty:TypeId} {pos:String} {af:Array Edge} {x y z:Operand} {gd:Option (Nat×Bool)}
theorem Qt.slcArrL {t el k b:Nat} {q:Int} (ht:arrOk P t el k 1=true) (hx:evo e x=some (.pointer (some ⟨b,0,none⟩)):=by rfl) (hy:evo e y=some (.int .i64 q):=by rfl) (hq:0<=q/\q < k:=by omega) :
  Qt P B n e L ⟨some d,.slice t x (some y) none none,ty,pos,af,gd⟩ (.slice (some ⟨b,q.toNat,none⟩) (k - q.toNat) (k - q.toNat)) :=
 fun a w ha hs=>by
  obtain ⟨hu,i,hi,hsz⟩:=arr_of ht
  have h1:¬ k=q.toNat:=by omega
  have h2:q<=(k:Int):=by omega
  simp [execOp,ha.eval hx,ha.eval hy,Instr.sliceAt,run_underlying hu,Instr.sureAddr,Instr.sliceBounds,Instr.sliceBound,asIntOf,sizeOf,typeInfo,hi,hsz,add_plain',hq.1,h2,h1]
theorem WL.slcArrL {t el k b:Nat} {q:Int} (h:WL P B n ops l Q ((d,.slice (some ⟨b,q.toNat,none⟩) (k - q.toNat) (k - q.toNat)) :: e) L) (ht:arrOk P t el k 1=true) (hx:evo e x=some (.pointer (some ⟨b,0,none⟩)):=by rfl) (hy:evo e y=some (.int .i64 q):=by rfl) (hq:0<=q/\q < k:=by omega) (hd:Nat.ble (d+1) n.k=true:=by rfl) :
  WL P B n ops (⟨some d,.slice t x (some y) none none,ty,pos,af,none⟩ :: l) Q e L:=WL.pure h hd (Qt.slcArrL ht hx hy hq)
theorem buf_of_row {b el k:Nat} {xs:List Value} (hk:xs.length=k):∀ h,row b el xs h->buf b el k xs h:=by
 intro h hh
 subst hk
 unfold row at hh
 exact buf_of_pt (cs:=xs.toArray) rfl h hh
theorem row_of_buf {b el k:Nat} {xs:List Value} (hk:xs.length=k):∀ h,buf b el k xs h->row b el xs h:=by
 intro h hh
 obtain ⟨cs,⟨h1,h2,_⟩,h3⟩:=pt_of_buf h hh
 have h4:cs=xs.toArray:=by
  rw [List.take_of_length_le (by rw [Array.length_toList];omega)] at h2
  rw [<- h2]
 unfold row
 rw [<- h4]
 exact h3
end
theorem rune_low {xs:Bytes} {k:Nat} (h:k < xs.length) (hb:xs[k].toNat < 128):rune xs k=(xs[k].toNat,1):=by
 unfold rune
 have hk:k < (bstr xs).size:=by rw [bstr_size];exact h
 have:=decode_ascii (bstr xs) k hk (by rw [bstr_get hk];exact hb)
 rw [this,bstr_get hk]
theorem bget {xs:Bytes} {k:Nat} (h:k < xs.length):(bstr xs).get! k=xs[k]:=by
 have hk:k < (bstr xs).size:=by rw [bstr_size];exact h
 have:=get_at (bstr xs) k hk
 rw [Nat.add_zero] at this
 rw [this,bstr_get hk]
theorem rune_high {xs:Bytes} {k:Nat} (h:k < xs.length) (hb:128<=xs[k].toNat) :
  128<=(rune xs k).1/\1<=(rune xs k).2/\∀ j,k<=j->j < k+(rune xs k).2->∀ (hj:j < xs.length),128<=xs[j].toNat:=by
 have hk:k < (bstr xs).size:=by rw [bstr_size];exact h
 have h1:=decode_high (bstr xs) k hk (by rw [bstr_get hk];exact hb)
 refine ⟨h1.1,h1.2,?_⟩
 intro j hj1 hj2 hj
 by_cases hjk:j=k
 ·subst hjk;exact hb
 unfold rune at hj2
 have key:∀ q,1<=q->(decide (k+q < (bstr xs).size) && ((bstr xs).get! (k+q)).toNat / 64==2)=true->∀ (hq:k+q < xs.length),128<=xs[k+q].toNat:=by
  intro q _ hq hlt
  rw [Bool.and_eq_true] at hq
  have:=hq.2
  rw [bget hlt] at this
  have:xs[k+q].toNat / 64=2:=by simpa using this
  omega
 have b0:((bstr xs).get! (k+0)).toNat=xs[k].toNat:=congrArg UInt8.toNat (bget h)
 simp only [Utf8.decode,b0] at hj2
 rw [if_neg (by omega)] at hj2
 obtain ⟨q,rfl⟩:∃ q,j=k+q:=⟨j - k,by omega⟩
 have hq1:1<=q:=by omega
 split at hj2
 ·rename_i hc
  rw [Bool.and_eq_true] at hc
  have:q < 2:=by split at hj2<;>simp only at hj2<;>omega
  obtain rfl:q=1:=by omega
  exact key 1 (by omega) hc.2 hj
 ·split at hj2
  ·rename_i hc
   rw [Bool.and_eq_true,Bool.and_eq_true] at hc
   have:q < 3:=by split at hj2<;>simp only at hj2<;>omega
   rcases (show q=1 ∨ q=2 by omega) with rfl | rfl
   ·exact key 1 (by omega) hc.1.2 hj
   ·exact key 2 (by omega) hc.2 hj
  ·split at hj2
   ·rename_i hc
    rw [Bool.and_eq_true,Bool.and_eq_true,Bool.and_eq_true] at hc
    have:q < 4:=by split at hj2<;>simp only at hj2<;>omega
    rcases (show q=1 ∨ q=2 ∨ q=3 by omega) with rfl | rfl | rfl
    ·exact key 1 (by omega) hc.1.1.2 hj
    ·exact key 2 (by omega) hc.1.2 hj
    ·exact key 3 (by omega) hc.2 hj
   ·simp only at hj2
    omega
theorem rune_pos {xs:Bytes} {k:Nat} (h:k < xs.length):1<=(rune xs k).2:=by
 by_cases hb:xs[k].toNat < 128
 ·rw [rune_low h hb];exact Nat.le_refl _
 ·exact (rune_high h (by omega)).2.1
theorem rune_le (xs:Bytes) (k:Nat):(rune xs k).1<=2147483647:=decode_le _ _
theorem encode_high {c:Nat} (h:128<=c):∃ l:Bytes,(Utf8.encode (c:Int)).data.toList=l/\2<=l.length/\l.length<=4/\(∀ x,l.getLast?=some x->128<=x.toNat):=by
 refine ⟨_,rfl,?_⟩
 have hmod:∀ m:Nat,128<=(UInt8.ofNat (128+m % 64)).toNat:=by
  intro m
  rw [UInt8.toNat_ofNat']
  omega
 unfold Utf8.encode
 have hc:∃ q:Nat,(if Utf8.valid (c:Int) then (c:Int).toNat else Utf8.runeError)=q/\128<=q:=by
  split
  ·exact ⟨c,Int.toNat_natCast c,h⟩
  ·exact ⟨_,rfl,by decide⟩
 obtain ⟨q,hq,hq8⟩:=hc
 simp only [hq]
 rw [if_neg (by omega)]
 split
 ·simp;omega
 ·split
  ·simp;omega
  ·simp;omega
theorem un21:Tryz.prog.underlying 21=some (.int .i32):=by kernel_rfl
def sepIn (xs:Bytes):Bool:=xs.any fun b=>b==47 || b==0
theorem sepIn_no {xs:Bytes} (h:∀ (j:Nat) (hj:j < xs.length),xs[j]≠47/\xs[j]≠0):sepIn xs=false:=by
 unfold sepIn
 rw [List.any_eq_false]
 intro b hb
 obtain ⟨j,hj,rfl⟩:=List.mem_iff_getElem.1 hb
 obtain ⟨h1,h2⟩:=h j hj
 simp [h1,h2]
theorem sepIn_yes {xs:Bytes} {j:Nat} (hj:j < xs.length) (h:xs[j]=47 ∨ xs[j]=0):sepIn xs=true:=by
 unfold sepIn
 rw [List.any_eq_true]
 exact ⟨xs[j],List.getElem_mem hj,by rcases h with h | h<;>simp [h]⟩
theorem idxByteX (xs:Bytes) (c:Int) (w:World):(callFunc 347 #[sv xs,.int .u8 c]).run Tryz.prog w=.ok (.value (.int .i64 (Lib.indexByte xs c.toNat.toUInt8))) w:=by
 rw [run_callFunc_extern Tryz.func347 (by kernel_rfl) (by kernel_rfl) (by kernel_rfl) (e:=Extern.BytealgIndexByte.indexByte) (by kernel_rfl),sv_bstr,Lib.run_indexByteString]
 rfl
theorem sep_low:∀ c:Nat,c < 128->decide ((0:Int)<=Lib.indexByte [47,0] (c:Int).toNat.toUInt8)=decide (c=47 ∨ c=0):=by decide +kernel
theorem rune_sep0:rune [47,0] 0=(47,1):=rune_low (by decide) (by decide)
theorem rune_sep1:rune [47,0] 1=(0,1):=rune_low (by decide) (by decide)
def validR (c:Nat):Bool:=decide (c < 55296) || (decide (57343 < c) && decide (c<=1114111))
theorem idxByteL {xs:Bytes} {c:Int}:Spec Tryz.prog 340 #[sv xs,.int .u8 c] [] fun F v M=>v=.int .i64 (Lib.indexByte xs c.toNat.toUInt8)/\M=F:=by
 refine Spec.intro Tryz.func340 rfl rfl fun B F=>?_
 simp only [Tryz.ntmps340,List.cons_append,List.nil_append,env0,Nat.reduceAdd]
 refine .sr (.assign (.x (.move (.move ?_))))
 refine .callX (hc:=idxByteX xs c) (h:=?_)
 refine .assign (.z ?_)
 refine .ret (?_)
 exact .ret1 (h1:=.tmp (t:=4) rfl) ⟨_,⟨rfl,rfl⟩,Am.auto⟩
theorem idxByte {xs:Bytes} {c:Int}:Spec Tryz.prog 344 #[sv xs,.int .u8 c] [] fun F v M=>v=.int .i64 (Lib.indexByte xs c.toNat.toUInt8)/\M=F:=by
 refine Spec.intro Tryz.func344 rfl rfl fun B F=>?_
 simp only [Tryz.ntmps344,List.cons_append,List.nil_append,env0,Nat.reduceAdd]
 refine .sr (.assign (.x (.move (.move ?_))))
 refine .call (hc:=Tryz.call340) (sp:=idxByteL) (h:=?_)
 rintro _ _ ⟨rfl,rfl⟩
 refine .assign (.z ?_)
 refine .ret (?_)
 exact .ret1 (h1:=.tmp (t:=4) rfl) ⟨_,⟨rfl,rfl⟩,Am.auto⟩
theorem validRune {c:Nat}:Spec Tryz.prog 345 #[.int .i32 (c:Int)] [] fun F v M=>v=.bool (validR c)/\M=F:=by
 refine Spec.intro Tryz.func345 rfl rfl fun B F=>?_
 simp only [Tryz.ntmps345,List.cons_append,List.nil_append,env0,Nat.reduceAdd]
 unfold validR
 rcases (show c < 55296 ∨ (¬ c < 55296/\57343 < c/\c<=1114111) ∨ (¬ c < 55296/\¬ 57343 < c) ∨ (¬ c < 55296/\57343 < c/\¬ c<=1114111) from by omega) with hc | hc | hc | hc
 ·refine .sr (.assign (.z (.seq (.block (.sr (.move ?_))))))
  refine .leq ?_
  refine .move ?_
  refine .cast (d:=6) (u:=.bool true) rfl (congrArg Value.bool (by first|simp;done|simp;omega|omega)) ?_
  refine .gT ?_
  refine .move ?_
  refine .gT ?_
  refine .lss ?_
  refine .pickT ?_
  refine .assign (.z ?_)
  refine .condT rfl (congrArg Value.bool (by first|simp;done|simp;omega|omega)) ?_
  refine .sr (.assign (.z ?_))
  refine .ret (.blockRet (.thenRet (?_)))
  exact .ret1 (h1:=.tmp (t:=2) rfl) ⟨_,⟨by simp [hc],rfl⟩,Am.auto⟩
 ·refine .sr (.assign (.z (.seq (.block (.sr (.move ?_))))))
  refine .leq ?_
  refine .move ?_
  refine .cast (d:=6) (u:=.bool true) rfl (congrArg Value.bool (by first|simp;done|simp;omega|omega)) ?_
  refine .gT ?_
  refine .move ?_
  refine .gT ?_
  refine .lss ?_
  refine .pickT ?_
  refine .assign (.z ?_)
  refine .condF rfl (congrArg Value.bool (by first|simp;done|simp;omega|omega)) ?_
  refine .sr (.move ?_)
  refine .lss ?_
  refine .move ?_
  refine .cast (d:=13) (u:=.bool true) rfl (congrArg Value.bool (by first|simp;done|simp;omega|omega)) ?_
  refine .gT ?_
  refine .move ?_
  refine .gT ?_
  refine .leq ?_
  refine .pickT ?_
  refine .assign (.z ?_)
  refine .condT rfl (congrArg Value.bool (by first|simp;done|simp;omega|omega)) ?_
  refine .sr (.assign (.z ?_))
  refine .ret (.blockRet (.thenRet (?_)))
  exact .ret1 (h1:=.tmp (t:=2) rfl) ⟨_,⟨by simp [hc],rfl⟩,Am.auto⟩
 ·refine .sr (.assign (.z (.seq (.block (.sr (.move ?_))))))
  refine .leq ?_
  refine .move ?_
  refine .cast (d:=6) (u:=.bool true) rfl (congrArg Value.bool (by first|simp;done|simp;omega|omega)) ?_
  refine .gT ?_
  refine .move ?_
  refine .gT ?_
  refine .lss ?_
  refine .pickT ?_
  refine .assign (.z ?_)
  refine .condF rfl (congrArg Value.bool (by first|simp;done|simp;omega|omega)) ?_
  refine .sr (.move ?_)
  refine .lss ?_
  refine .move ?_
  refine .cast (d:=13) (u:=.bool false) rfl (congrArg Value.bool (by first|simp;done|simp;omega|omega)) ?_
  refine .gF ?_
  refine .gF ?_
  refine .pickF ?_
  refine .assign (.z ?_)
  refine .condF rfl rfl ?_
  refine .skip (.blockNormal (.next (.sr (.assign (.z ?_)))))
  refine .ret (?_)
  exact .ret1 (h1:=.tmp (t:=2) rfl) ⟨_,⟨by simp [hc],rfl⟩,Am.auto⟩
 ·refine .sr (.assign (.z (.seq (.block (.sr (.move ?_))))))
  refine .leq ?_
  refine .move ?_
  refine .cast (d:=6) (u:=.bool true) rfl (congrArg Value.bool (by first|simp;done|simp;omega|omega)) ?_
  refine .gT ?_
  refine .move ?_
  refine .gT ?_
  refine .lss ?_
  refine .pickT ?_
  refine .assign (.z ?_)
  refine .condF rfl (congrArg Value.bool (by first|simp;done|simp;omega|omega)) ?_
  refine .sr (.move ?_)
  refine .lss ?_
  refine .move ?_
  refine .cast (d:=13) (u:=.bool true) rfl (congrArg Value.bool (by first|simp;done|simp;omega|omega)) ?_
  refine .gT ?_
  refine .move ?_
  refine .gT ?_
  refine .leq ?_
  refine .pickT ?_
  refine .assign (.z ?_)
  refine .condF rfl (congrArg Value.bool (by first|simp;done|simp;omega|omega)) ?_
  refine .skip (.blockNormal (.next (.sr (.assign (.z ?_)))))
  refine .ret (?_)
  exact .ret1 (h1:=.tmp (t:=2) rfl) ⟨_,⟨by simp [hc],rfl⟩,Am.auto⟩
theorem idxRune {c:Nat}:Spec Tryz.prog 330 #[sv [47,0],.int .i32 (c:Int)] [] fun F v M=>∃ r:Int,v=.int .i64 r/\decide (0<=r)=decide (c=47 ∨ c=0)/\M=F:=by
 refine Spec.intro Tryz.func330 rfl rfl fun B F=>?_
 simp only [Tryz.ntmps330,List.cons_append,List.nil_append,env0,Nat.reduceAdd]
 rcases (show c < 128 ∨ c=65533 ∨ (¬ c < 128/\c≠65533) from by omega) with hc | hc | hc
 ·refine .sr (.assign (.z (.block (.sr (.move ?_)))))
  refine .leq ?_
  refine .move ?_
  refine .cast (d:=163) (u:=.bool true) rfl (congrArg Value.bool (by first|simp;done|simp;omega|omega)) ?_
  refine .gT ?_
  refine .move ?_
  refine .gT ?_
  refine .lss ?_
  refine .pickT ?_
  refine .assign (.z ?_)
  refine .condT rfl (congrArg Value.bool (by first|simp;done|simp;omega|omega)) ?_
  refine .sr (.move (.move ?_))
  refine .cvt ?_ un21 un5
  refine .cast (d:=169) (u:=.int .u8 (c:Int)) rfl (congrArg (Value.int .u8) (IntWalk.u8_in _ (by omega))) ?_
  refine .call (hc:=Tryz.call344) (sp:=idxByte (xs:=[47,0]) (c:=(c:Int))) (h:=?_)
  rintro _ _ ⟨rfl,rfl⟩
  refine .assign (.z ?_)
  refine .ret (.blockRet (?_))
  exact .ret1 (h1:=.tmp (t:=4) rfl) ⟨_,⟨_,rfl,sep_low c hc,rfl⟩,Am.auto⟩
 ·subst hc
  refine .sr (.assign (.z (.block (.sr (.move ?_)))))
  refine .leq ?_
  refine .move ?_
  refine .cast (d:=163) (u:=.bool true) rfl (congrArg Value.bool (by first|simp;done|simp;omega|omega)) ?_
  refine .gT ?_
  refine .move ?_
  refine .gT ?_
  refine .lss ?_
  refine .pickT ?_
  refine .assign (.z ?_)
  refine .condF rfl (congrArg Value.bool (by first|simp;done|simp;omega|omega)) ?_
  refine .sr (.move ?_)
  refine .eqi ?_
  refine .assign (.z ?_)
  refine .condT rfl rfl ?_
  refine .seq (.sr (.move ?_))
  refine .rangeT [47,0] st9 (fun it=>?_)
  refine .z (.block ?_)
  refine .loopN 3 (RC.succ ?_)
  refine .sr ?_
  refine .nextT (k:=0) [47,0] (fun hk=>absurd (by decide) hk) (fun _=>?_)
  rw [rune_sep0]
  refine .extract ?_
  refine .z (.seq ?_)
  refine .condT rfl rfl ?_
  refine .skip (.next (.block (.sr ?_)))
  refine .extract ?_
  refine .extract ?_
  refine .assign (.assign (.x (.move ?_)))
  refine .eqi ?_
  refine .z ?_
  refine .condF rfl rfl ?_
  refine .skip (.blockNormal ?_)
  refine .again (RC.succ ?_)
  refine .sr ?_
  refine .nextT (k:=1) [47,0] (fun hk=>absurd (by decide) hk) (fun _=>?_)
  rw [rune_sep1]
  refine .extract ?_
  refine .z (.seq ?_)
  refine .condT rfl rfl ?_
  refine .skip (.next (.block (.sr ?_)))
  refine .extract ?_
  refine .extract ?_
  refine .assign (.assign (.x (.move ?_)))
  refine .eqi ?_
  refine .z ?_
  refine .condF rfl rfl ?_
  refine .skip (.blockNormal ?_)
  refine .again (RC.succ ?_)
  refine .sr ?_
  refine .nextT (k:=2) [47,0] (fun _=>?_) (fun hk=>absurd hk (by decide))
  refine .extract ?_
  refine .z (.seq ?_)
  refine .condF rfl rfl ?_
  refine .exit (.thenExit (.thenExit (.blockExit (?_))))
  refine .next (.sr (.assign (.z ?_)))
  refine .ret (.blockRet (?_))
  exact .ret1 (h1:=.tmp (t:=4) rfl) ⟨_,⟨_,rfl,by decide,rfl⟩,Am.auto⟩
 ·obtain ⟨l,hl,hl2,hl4,hlast⟩:=encode_high (c:=c) (by omega)
  refine .sr (.assign (.z (.block (.sr (.move ?_)))))
  refine .leq ?_
  refine .move ?_
  refine .cast (d:=163) (u:=.bool true) rfl (congrArg Value.bool (by first|simp;done|simp;omega|omega)) ?_
  refine .gT ?_
  refine .move ?_
  refine .gT ?_
  refine .lss ?_
  refine .pickT ?_
  refine .assign (.z ?_)
  refine .condF rfl (congrArg Value.bool (by first|simp;done|simp;omega|omega)) ?_
  refine .sr (.move ?_)
  refine .eqi ?_
  refine .assign (.z ?_)
  refine .condF rfl (congrArg Value.bool (by first|simp;done|simp;omega|omega)) ?_
  refine .sr (.move ?_)
  refine .call (hc:=Tryz.call345) (sp:=validRune (c:=c)) (h:=?_)
  rintro _ _ ⟨rfl,rfl⟩
  refine .not ?_
  refine .assign (.z ?_)
  cases hv:validR c
  ·refine .condT rfl rfl ?_
   refine .sr (.assign (.z ?_))
   refine .ret (.blockRet (?_))
   exact .ret1 (h1:=.tmp (t:=4) rfl) ⟨_,⟨_,rfl,by rw [decide_eq_false (by decide),decide_eq_false (by omega)],rfl⟩,Am.auto⟩
  ·refine .condF rfl rfl ?_
   refine .scope (.sr (.move ?_))
   refine .pure ?_ rfl (Qt.cvtRT un21 st9)
   rw [hl]
   refine .assign (.x (.move ?_))
   refine .lenT _ ?_ st9
   refine .sub ?_
   refine .assign (.x (.move (.assign (.x (.assign (.z (.seq (.block ?_))))))))
   rcases (show l.length=2 ∨ 3<=l.length from by omega) with hl3 | hl3
   ·obtain ⟨x,hx⟩:∃ x,l[1]?=some x:=⟨_,List.getElem?_eq_getElem (by omega)⟩
    have hx8:128<=x.toNat:=hlast x (by rw [List.getLast?_eq_getElem?,hl3];exact hx)
    rw [hl3]
    refine .loopN 2 (RC.succ ?_)
    refine .seq (.sr (.move (.move ?_)))
    refine .lenT _ ?_ st9
    refine .lss ?_
    refine .z ?_
    refine .condT rfl rfl ?_
    refine .skip (.next (.block (.scope (.seq (.seq ?_)))))
    refine .dr ([]) [] 7 mixed .autoS ?_
    refine .tk 0 rfl .move ?_
    refine .tk 1 rfl .move ?_
    refine .tk 2 rfl (Qt.ixT (p:=1) (v:=0) [47,0] st9 rfl) ?_
    refine .tk 3 rfl .move ?_
    refine .tk 4 rfl .move ?_
    refine .tk 5 rfl (Qt.ixT (p:=1) (v:=x) l st9 hx) ?_
    refine .tk 6 rfl ((Qt.nei).eq (v':=.bool true) (congrArg Value.bool (show (!decide ((0:Int)=(x.toNat:Int)))=true from by rw [decide_eq_false (by omega)];rfl))) ?_
    refine .fin ?_
    refine .next ?_
    refine .condT rfl rfl ?_
    refine .seq ?_
    refine .dr ([]) [] 9 mixed .autoS ?_
    refine .tk 0 rfl .move ?_
    refine .tk 1 rfl .move ?_
    refine .tk 2 rfl .add ?_
    refine .tk 3 rfl (Qt.subT (p:=1+1) [47,0] st9 (hp:=⟨by decide,by decide⟩)) ?_
    refine .tk 4 rfl .move ?_
    refine .tk 5 rfl .move ?_
    refine .tk 6 rfl (Qt.ixT (p:=1) (v:=x) l st9 hx) ?_
    refine .on 7 rfl fun hnp=>?_
    refine .call (hc:=Tryz.call344) (sp:=idxByte (xs:=[]) (c:=(x.toNat:Int))) (h:=?_)
    rintro _ _ ⟨rfl,rfl⟩
    refine .nil (.wa hnp ?_)
    refine .tk 8 rfl .assign ?_
    refine .fin ?_
    refine .next (.seq (.sr (.move ?_)))
    refine .lss ?_
    refine .z ?_
    refine .condT rfl rfl ?_
    refine .sr (.assign (.z ?_))
    refine .ret (.thenRet (.thenRet (.scopeRet (.blockRet (.thenRet (.blockRet (.thenRet (.scopeRet (.blockRet (?_))))))))))
    exact .ret1 (h1:=.tmp (t:=4) rfl) ⟨_,⟨_,rfl,by rw [decide_eq_false (by decide),decide_eq_false (by omega)],rfl⟩,Am.auto⟩
   ·refine .loopN 1 (RC.succ ?_)
    refine .seq (.sr (.move (.move ?_)))
    refine .lenT _ ?_ st9
    refine .lss ?_
    refine .z ?_
    refine .condF rfl (congrArg Value.bool (by first|simp;done|simp;omega|omega)) ?_
    refine .exit (.thenExit (.thenExit (.blockExit (?_))))
    refine .next (.seq (.sr (.assign (.z ?_))))
    refine .ret (.thenRet (.scopeRet (.blockRet (?_))))
    exact .ret1 (h1:=.tmp (t:=4) rfl) ⟨_,⟨_,rfl,by rw [decide_eq_false (by decide),decide_eq_false (by omega)],rfl⟩,Am.auto⟩
theorem agg402:aggOk Tryz.prog 402 256=true:=by kernel_rfl
theorem z402:zeroOf Tryz.prog 402=some (Array.replicate 256 (.bool false)):=by kernel_rfl
theorem ar402:arrOk Tryz.prog 402 4 256 1=true:=by kernel_rfl
def sepA:List Value:=((List.replicate 256 (Value.bool false)).set 47 (.bool true)).set 0 (.bool true)
theorem sepA_length:sepA.length=256:=by unfold sepA;rw [List.length_set,List.length_set,List.length_replicate]
theorem sepA_single:∀ v∈sepA,Value.single v=true:=by
 intro v hv
 unfold sepA at hv
 rcases List.mem_or_eq_of_mem_set hv with hv | rfl
 ·rcases List.mem_or_eq_of_mem_set hv with hv | rfl
  ·rw [List.eq_of_mem_replicate hv];rfl
  ·rfl
 ·rfl
theorem bool_arr:Array.replicate 256 (Value.bool false)=(List.replicate 256 (Value.bool false)).toArray:=(List.toArray_replicate ..).symm
theorem sepA_get (x:UInt8):sepA[x.toNat]?=some (.bool (x==47 || x==0)):=by
 have hx:x.toNat < 256:=x.toNat_lt
 unfold sepA
 by_cases h0:x=0
 ·subst h0
  exact List.getElem?_set_self (by rw [List.length_set,List.length_replicate];decide)
 ·have h0':0≠x.toNat:=fun h=>h0 (UInt8.toNat_inj.1 h.symm)
  rw [List.getElem?_set_ne h0']
  by_cases h47:x=47
  ·subst h47
   exact List.getElem?_set_self (by rw [List.length_replicate];decide)
  ·have h47':47≠x.toNat:=fun h=>h47 (UInt8.toNat_inj.1 h.symm)
   rw [List.getElem?_set_ne h47',List.getElem?_replicate,if_pos hx]
   simp [h0,h47]
def nameOk (xs:Bytes):Bool:=!decide (xs=[]) && (decide (xs.length<=50) && (!sepIn xs && (!decide (xs=[46]) && !decide (xs=[46,46]))))
theorem mkSet:Spec Tryz.prog 332 #[sv [47,0]] [] fun F v M=>v=.tuple #[.agg sepA.toArray,.bool true]/\M=F:=by
 refine Spec.intro Tryz.func332 rfl rfl fun B F=>?_
 simp only [Tryz.ntmps332,List.cons_append,List.nil_append,env0,Nat.reduceAdd]
 refine .sr ?_
 refine .allocL (us:=List.replicate 256 (Value.bool false)) z402 bool_arr fun b2=>?_
 refine .assign (.z (.seq (.sr (.assign (.z (.block ?_))))))
 refine .loopN 3 (RC.succ ?_)
 refine .seq (.sr (.move (.move ?_)))
 refine .lenT _ ?_ st9
 refine .lss ?_
 refine .z ?_
 refine .condT rfl rfl ?_
 refine .skip (.next (.seq (.block (.sr (.move (.move ?_))))))
 refine .ixT (p:=0) (v:=47) [47,0] ?_ st9 rfl
 refine .cast (d:=14) (u:=.int .u8 47) rfl rfl ?_
 refine .assign (.z (.seq (.sr (.move ?_))))
 refine .geq ?_
 refine .z ?_
 refine .condF rfl rfl ?_
 refine .skip (.next (.region (.move ?_)))
 refine .idxA ?_ ar402
 refine .stL (xs:=(List.replicate 256 (Value.bool false))) (i:=47) ?_ sc4 (by first | (rw [List.length_set,List.length_replicate];decide) | (rw [List.length_replicate];decide))
 refine .nil (.blockNormal (.next (.region (.move ?_))))
 refine .add ?_
 refine .assign (.nil ?_)
 refine .again (RC.succ ?_)
 refine .seq (.sr (.move (.move ?_)))
 refine .lenT _ ?_ st9
 refine .lss ?_
 refine .z ?_
 refine .condT rfl rfl ?_
 refine .skip (.next (.seq (.block (.sr (.move (.move ?_))))))
 refine .ixT (p:=1) (v:=0) [47,0] ?_ st9 rfl
 refine .cast (d:=14) (u:=.int .u8 0) rfl rfl ?_
 refine .assign (.z (.seq (.sr (.move ?_))))
 refine .geq ?_
 refine .z ?_
 refine .condF rfl rfl ?_
 refine .skip (.next (.region (.move ?_)))
 refine .idxA ?_ ar402
 refine .stL (xs:=((List.replicate 256 (Value.bool false)).set 47 (.bool true))) (i:=0) ?_ sc4 (by first | (rw [List.length_set,List.length_replicate];decide) | (rw [List.length_replicate];decide))
 refine .nil (.blockNormal (.next (.region (.move ?_))))
 refine .add ?_
 refine .assign (.nil ?_)
 refine .again (RC.succ ?_)
 refine .seq (.sr (.move (.move ?_)))
 refine .lenT _ ?_ st9
 refine .lss ?_
 refine .z ?_
 refine .condF rfl rfl ?_
 refine .exit (.thenExit (.thenExit (.blockExit (?_))))
 refine .next (.sr ?_)
 refine .ldW (xs:=sepA) ?_ agg402 sepA_length
 refine .stLA (xs:=sepA) (us:=sepA) ?_ agg402 sepA_length sepA_length sepA_single
 refine .assign (.z ?_)
 refine .ret (?_)
 exact .ret2 (h1:=RV.aggL rfl agg402 (by repeat (first | exact .here | apply Rem.there | apply Repl.there | apply Mem.there)) sepA_length) (h2:=.tmp rfl) ⟨_,⟨rfl,rfl⟩,Am.auto⟩
theorem setHas {b:Nat} {x:UInt8}:Spec Tryz.prog 333 #[.pointer (some ⟨b,0,none⟩),.int .u8 (x.toNat:Int)] [row b 402 sepA] fun F v M=>v=.bool (x==47 || x==0)/\M=row b 402 sepA :: F:=by
 refine Spec.intro Tryz.func333 rfl rfl fun B F=>?_
 simp only [Tryz.ntmps333,List.cons_append,List.nil_append,env0,Nat.reduceAdd]
 have hx:x.toNat < 256:=x.toNat_lt
 refine .sr (.assign (.x (.move (.move ?_))))
 refine .nilCheck ?_
 refine .idxA ?_ ar402
 refine .ldL (xs:=sepA) (i:=0+((x.toNat:Nat):Int).toNat * 1) ?_ sc4 (by rw [Nat.zero_add,Nat.mul_one,Int.toNat_natCast];exact sepA_get x)
 refine .assign (.z ?_)
 refine .ret (?_)
 exact .ret1 (h1:=.tmp (t:=4) rfl) ⟨_,⟨rfl,rfl⟩,Am.auto⟩
theorem useSet {k:Int}:Spec Tryz.prog 331 #[.int .i64 k] [] fun F v M=>v=.bool (decide (8 < k))/\M=F:=by
 refine Spec.intro Tryz.func331 rfl rfl fun B F=>?_
 simp only [Tryz.ntmps331,List.cons_append,List.nil_append,env0,Nat.reduceAdd]
 refine .sr (.assign (.x (.move ?_)))
 refine .gtr ?_
 refine .assign (.z ?_)
 refine .ret (?_)
 exact .ret1 (h1:=.tmp (t:=2) rfl) ⟨_,⟨rfl,rfl⟩,Am.auto⟩
theorem idxAny {xs:Bytes} (hl:xs.length<=65536):Spec Tryz.prog 307 #[sv xs,sv [47,0]] [] fun F v M=>∃ r:Int,v=.int .i64 r/\decide (0<=r)=sepIn xs/\M=F:=by
 refine Spec.intro Tryz.func307 rfl rfl fun B F=>?_
 simp only [Tryz.ntmps307,List.cons_append,List.nil_append,env0,Nat.reduceAdd]
 refine .sr (.assign (.z (.seq (.sr (.move ?_)))))
 refine .eqS _ _ ?_
 refine .z ?_
 refine .condF rfl rfl ?_
 refine .skip (.next (.seq (.sr (.move ?_))))
 refine .lenT _ ?_ st9
 refine .eqi ?_
 refine .z ?_
 refine .condF rfl rfl ?_
 refine .skip (.next (.seq (.sr (.move ?_))))
 refine .lenT _ ?_ st9
 refine .call (hc:=Tryz.call331) (sp:=useSet (k:=(xs.length:Int))) (h:=?_)
 rintro _ _ ⟨rfl,hM⟩
 obtain rfl:=hM.symm
 refine .z ?_
 refine .cond rfl (fun h8=>?_) (fun h8=>?_)
 ·refine .sr (.move ?_)
  refine .call (hc:=Tryz.call332) (sp:=mkSet) (h:=?_)
  rintro _ _ ⟨rfl,hM2⟩
  obtain rfl:=hM2.symm
  refine .move ?_
  refine .extract ?_
  refine .extract ?_
  refine .allocL (us:=List.replicate 256 (Value.bool false)) z402 bool_arr fun b6=>?_
  refine .stLA (xs:=List.replicate 256 (Value.bool false)) (us:=sepA) ?_ agg402 sepA_length List.length_replicate sepA_single
  refine .assign (.x (.move (.z ?_)))
  refine .condT rfl rfl ?_
  refine .seq (.sr (.assign (.z (.block ?_))))
  refine .loopA (σ:=Nat) (fun i=>[(0,sv xs),(6,.pointer (some ⟨b6,0,none⟩)),(8,.int .i64 (i:Int))]) (fun i=>row b6 402 sepA :: F) (fun i=>i<=xs.length/\∀ (j:Nat),j < i->∀ (hj:j < xs.length),xs[j]≠47/\xs[j]≠0) (fun i=>xs.length - i) 0 ⟨Nat.zero_le _,fun j hj=>by omega⟩ ?_
  rintro i hi
  refine .seq (.sr (.move (.move ?_)))
  refine .lenT _ ?_ st9
  refine .lss ?_
  refine .z ?_
  refine .cond rfl (fun hb=>?_) (fun hb=>?_)
  ·have hlt:i < xs.length:=by have h:(i:Int) < (xs.length:Int):=of_decide_eq_true hb;omega
   have hx:xs[((i:Nat):Int).toNat]?=some xs[i]:=by rw [Int.toNat_natCast];exact List.getElem?_eq_getElem hlt
   refine .skip (.next (.seq (.block (.sr (.move (.move ?_))))))
   refine .ixT (p:=(i:Int)) (v:=xs[i]) xs ?_ st9 hx
   refine .call (hc:=Tryz.call333) (sp:=setHas (b:=b6) (x:=xs[i])) (h:=?_)
   rintro _ _ ⟨rfl,rfl⟩
   refine .z ?_
   refine .cond rfl (fun hq=>?_) (fun hq=>?_)
   ·refine .sr (.move (.assign (.z ?_)))
    refine .ret (.blockRet (.thenRet (.thenRet (.blockRet (.thenRet (.thenRet (?_)))))))
    exact .ret1 (h1:=.tmp (t:=4) rfl) ⟨_,⟨_,rfl,by rw [decide_eq_true (by omega),sepIn_yes hlt (by simpa using hq)],rfl⟩,Am.auto⟩
   ·refine .skip (.blockNormal (.next (.region (.move ?_))))
    refine .add ?_
    refine .assign (.nil ?_)
    refine .cast (d:=8) (u:=.int .i64 ((i+1:Nat):Int)) rfl (congrArg (Value.int .i64) (by omega)) ?_
    exact .back (i+1) ⟨by omega,fun j hj hl=>by by_cases hji:j=i;(subst hji;simpa using hq);exact hi.2 j (by omega) hl⟩ (by omega)
  ·have hge:¬ i < xs.length:=by have h:¬ (i:Int) < (xs.length:Int):=of_decide_eq_false hb;omega
   refine .exit (.thenExit (.thenExit (.blockExit (?_))))
   refine .next (.sr (.assign (.z ?_)))
   refine .ret (.thenRet (?_))
   exact .ret1 (h1:=.tmp (t:=4) rfl) ⟨_,⟨_,rfl,by rw [decide_eq_false (by decide),sepIn_no (fun j hj=>hi.2 j (by omega) hj)],rfl⟩,Am.auto⟩
 ·refine .skip (.next (.seq (.sr (.move ?_))))
  refine .rangeT xs st9 (fun it=>?_)
  refine .z (.block ?_)
  refine .loopA (σ:=Nat) (fun k=>[(0,sv xs),(1,sv [47,0]),(45,.pointer (some ⟨it,0,none⟩))]) (fun k=>strIt it xs k :: F) (fun k=>∀ (j:Nat),j < k->∀ (hj:j < xs.length),xs[j]≠47/\xs[j]≠0) (fun k=>xs.length - k) 0 (fun j hj=>by omega) ?_
  rintro k hi
  refine .sr ?_
  refine .nextT (k:=k) xs (fun hk=>?_) (fun hk=>?_)
  ·refine .extract ?_
   refine .z (.seq ?_)
   refine .condF rfl rfl ?_
   refine .exit (.thenExit (.thenExit (.blockExit (?_))))
   refine .next (.sr (.assign (.z ?_)))
   refine .ret (?_)
   exact .ret1 (h1:=.tmp (t:=4) rfl) ⟨_,⟨_,rfl,by rw [decide_eq_false (by decide),sepIn_no (fun j hj=>hi j (by omega) hj)],rfl⟩,Am.auto⟩
  ·have hpos:=rune_pos hk
   have hle:=rune_le xs k
   obtain ⟨c,hc⟩:∃ c,(rune xs k).1=c:=⟨_,rfl⟩
   obtain ⟨d,hd⟩:∃ d,(rune xs k).2=d:=⟨_,rfl⟩
   rw [hc,hd]
   rw [hd] at hpos
   have hyes:c=47 ∨ c=0->sepIn xs=true:=by
    intro h
    by_cases hb:xs[k].toNat < 128
    ·rw [rune_low hk hb] at hc
     refine sepIn_yes hk ?_
     have hc:xs[k].toNat=c:=hc
     rcases h with h | h
     ·exact .inl (UInt8.toNat_inj.1 (by rw [hc,h];rfl))
     ·exact .inr (UInt8.toNat_inj.1 (by rw [hc,h];rfl))
    ·have:=(rune_high hk (by omega)).1
     omega
   have hno:¬ (c=47 ∨ c=0)->∀ (j:Nat),j < k+d->∀ (hj:j < xs.length),xs[j]≠47/\xs[j]≠0:=by
    intro h j hj hjl
    by_cases hjk:j < k
    ·exact hi j hjk hjl
    by_cases hb:xs[k].toNat < 128
    ·rw [rune_low hk hb] at hc hd
     have hc:xs[k].toNat=c:=hc
     have hd:1=d:=hd
     obtain rfl:j=k:=by omega
     refine ⟨fun h2=>h (.inl ?_),fun h2=>h (.inr ?_)⟩
     ·rw [<- hc,h2];rfl
     ·rw [<- hc,h2];rfl
    ·have h3:=(rune_high hk (by omega)).2.2 j (by omega) (by rw [hd];exact hj) hjl
     refine ⟨fun h2=>?_,fun h2=>?_⟩
     ·rw [h2] at h3;exact absurd h3 (by decide)
     ·rw [h2] at h3;exact absurd h3 (by decide)
   refine .extract ?_
   refine .z (.seq ?_)
   refine .condT rfl rfl ?_
   refine .skip (.next (.block (.sr ?_)))
   refine .extract ?_
   refine .extract ?_
   refine .assign (.assign (.x (.move (.move ?_))))
   refine .call (hc:=Tryz.call330) (sp:=idxRune (c:=c)) (h:=?_)
   rintro _ _ ⟨r,rfl,hr,rfl⟩
   by_cases hq:c=47 ∨ c=0
   ·have hr0:0<=r:=of_decide_eq_true (by rw [hr];exact decide_eq_true hq)
    refine .geq ?_
    refine .z ?_
    refine .condT rfl (congrArg Value.bool (by first|simp;done|simp;omega|omega)) ?_
    refine .sr (.move (.assign (.z ?_)))
    refine .ret (.blockRet (.thenRet (.blockRet (.thenRet (?_)))))
    exact .ret1 (h1:=.tmp (t:=4) rfl) ⟨_,⟨_,rfl,by rw [decide_eq_true (by omega),hyes hq],rfl⟩,Am.auto⟩
   ·have hr0:¬ 0<=r:=of_decide_eq_false (by rw [hr];exact decide_eq_false hq)
    refine .geq ?_
    refine .z ?_
    refine .condF rfl (congrArg Value.bool (by first|simp;done|simp;omega|omega)) ?_
    refine .skip (.blockNormal ?_)
    exact .back (k+d) (hno hq) (by show xs.length - (k+d) < xs.length - k;omega)
theorem hasAny {xs:Bytes} (hl:xs.length<=65536):Spec Tryz.prog 276 #[sv xs,sv [47,0]] [] fun F v M=>v=.bool (sepIn xs)/\M=F:=by
 refine Spec.intro Tryz.func276 rfl rfl fun B F=>?_
 simp only [Tryz.ntmps276,List.cons_append,List.nil_append,env0,Nat.reduceAdd]
 refine .sr (.assign (.x (.move (.move ?_))))
 refine .call (hc:=Tryz.call307) (sp:=idxAny hl) (h:=?_)
 rintro _ _ ⟨r,rfl,hr,rfl⟩
 refine .geq ?_
 refine .assign (.z ?_)
 refine .ret (?_)
 exact .ret1 (h1:=.tmp (t:=4) rfl) ⟨_,⟨congrArg Value.bool hr,rfl⟩,Am.auto⟩
theorem dName {xs:Bytes}:Spec Tryz.prog 234 #[sv xs] [] fun F v M=>v=.bool (nameOk xs)/\M=F:=by
 refine Spec.intro Tryz.func234 rfl rfl fun B F=>?_
 simp only [Tryz.ntmps234,List.cons_append,List.nil_append,env0,Nat.reduceAdd]
 unfold nameOk
 by_cases h1:xs=[]
 ·refine .sr (.assign (.x (.move ?_)))
  refine .neS _ _ ?_
  refine .cast (d:=4) (u:=.bool false) rfl (congrArg Value.bool (by simp [h1])) ?_
  refine .move ?_
  refine .gF ?_
  refine .gF ?_
  refine .gF ?_
  refine .pickF ?_
  refine .move ?_
  refine .gF ?_
  refine .gF ?_
  refine .gF ?_
  refine .pickF ?_
  refine .move ?_
  refine .gF ?_
  refine .gF ?_
  refine .pickF ?_
  refine .move ?_
  refine .gF ?_
  refine .gF ?_
  refine .pickF ?_
  refine .assign (.z ?_)
  refine .ret (?_)
  exact .ret1 (h1:=.tmp (t:=2) rfl) ⟨_,⟨by simp [h1],rfl⟩,Am.auto⟩
 ·by_cases h2:xs.length<=50
  ·cases h3:sepIn xs
   ·by_cases h4:xs=[46]
    ·refine .sr (.assign (.x (.move ?_)))
     refine .neS _ _ ?_
     refine .cast (d:=4) (u:=.bool true) rfl (congrArg Value.bool (by simp [h1])) ?_
     refine .move ?_
     refine .gT ?_
     refine .move ?_
     refine .gT ?_
     refine .lenT _ ?_ st9
     refine .gT ?_
     refine .leq ?_
     refine .pickT ?_
     refine .move ?_
     refine .cast (d:=10) (u:=.bool true) rfl (congrArg Value.bool (by first|simp;done|simp;omega|omega)) ?_
     refine .gT ?_
     refine .move ?_
     refine .gT ?_
     refine .call (hc:=Tryz.call276) (sp:=hasAny (xs:=xs) (by omega)) (h:=?_)
     rintro _ _ ⟨rfl,rfl⟩
     refine .gT ?_
     refine .not ?_
     refine .cast (d:=13) (u:=.bool true) rfl (congrArg Value.bool (by rw [h3];rfl)) ?_
     refine .pickT ?_
     refine .move ?_
     refine .gT ?_
     refine .move ?_
     refine .gT ?_
     refine .neS _ _ ?_
     refine .cast (d:=17) (u:=.bool false) rfl (congrArg Value.bool (by simp [h4])) ?_
     refine .pickT ?_
     refine .move ?_
     refine .gF ?_
     refine .gF ?_
     refine .pickF ?_
     refine .assign (.z ?_)
     refine .ret (?_)
     exact .ret1 (h1:=.tmp (t:=2) rfl) ⟨_,⟨by subst h4;rfl,rfl⟩,Am.auto⟩
    ·refine .sr (.assign (.x (.move ?_)))
     refine .neS _ _ ?_
     refine .cast (d:=4) (u:=.bool true) rfl (congrArg Value.bool (by simp [h1])) ?_
     refine .move ?_
     refine .gT ?_
     refine .move ?_
     refine .gT ?_
     refine .lenT _ ?_ st9
     refine .gT ?_
     refine .leq ?_
     refine .pickT ?_
     refine .move ?_
     refine .cast (d:=10) (u:=.bool true) rfl (congrArg Value.bool (by first|simp;done|simp;omega|omega)) ?_
     refine .gT ?_
     refine .move ?_
     refine .gT ?_
     refine .call (hc:=Tryz.call276) (sp:=hasAny (xs:=xs) (by omega)) (h:=?_)
     rintro _ _ ⟨rfl,rfl⟩
     refine .gT ?_
     refine .not ?_
     refine .cast (d:=13) (u:=.bool true) rfl (congrArg Value.bool (by rw [h3];rfl)) ?_
     refine .pickT ?_
     refine .move ?_
     refine .gT ?_
     refine .move ?_
     refine .gT ?_
     refine .neS _ _ ?_
     refine .cast (d:=17) (u:=.bool true) rfl (congrArg Value.bool (by simp [h4])) ?_
     refine .pickT ?_
     refine .move ?_
     refine .gT ?_
     refine .move ?_
     refine .gT ?_
     refine .neS _ _ ?_
     refine .pickT ?_
     refine .assign (.z ?_)
     refine .ret (?_)
     exact .ret1 (h1:=.tmp (t:=2) rfl) ⟨_,⟨by simp [*],rfl⟩,Am.auto⟩
   ·refine .sr (.assign (.x (.move ?_)))
    refine .neS _ _ ?_
    refine .cast (d:=4) (u:=.bool true) rfl (congrArg Value.bool (by simp [h1])) ?_
    refine .move ?_
    refine .gT ?_
    refine .move ?_
    refine .gT ?_
    refine .lenT _ ?_ st9
    refine .gT ?_
    refine .leq ?_
    refine .pickT ?_
    refine .move ?_
    refine .cast (d:=10) (u:=.bool true) rfl (congrArg Value.bool (by first|simp;done|simp;omega|omega)) ?_
    refine .gT ?_
    refine .move ?_
    refine .gT ?_
    refine .call (hc:=Tryz.call276) (sp:=hasAny (xs:=xs) (by omega)) (h:=?_)
    rintro _ _ ⟨rfl,rfl⟩
    refine .gT ?_
    refine .not ?_
    refine .cast (d:=13) (u:=.bool false) rfl (congrArg Value.bool (by rw [h3];rfl)) ?_
    refine .pickT ?_
    refine .move ?_
    refine .gF ?_
    refine .gF ?_
    refine .pickF ?_
    refine .move ?_
    refine .gF ?_
    refine .gF ?_
    refine .pickF ?_
    refine .assign (.z ?_)
    refine .ret (?_)
    exact .ret1 (h1:=.tmp (t:=2) rfl) ⟨_,⟨by simp [*],rfl⟩,Am.auto⟩
  ·refine .sr (.assign (.x (.move ?_)))
   refine .neS _ _ ?_
   refine .cast (d:=4) (u:=.bool true) rfl (congrArg Value.bool (by simp [h1])) ?_
   refine .move ?_
   refine .gT ?_
   refine .move ?_
   refine .gT ?_
   refine .lenT _ ?_ st9
   refine .gT ?_
   refine .leq ?_
   refine .pickT ?_
   refine .move ?_
   refine .cast (d:=10) (u:=.bool false) rfl (congrArg Value.bool (by first|simp;done|simp;omega|omega)) ?_
   refine .gF ?_
   refine .gF ?_
   refine .gF ?_
   refine .pickF ?_
   refine .move ?_
   refine .gF ?_
   refine .gF ?_
   refine .pickF ?_
   refine .move ?_
   refine .gF ?_
   refine .gF ?_
   refine .pickF ?_
   refine .assign (.z ?_)
   refine .ret (?_)
   exact .ret1 (h1:=.tmp (t:=2) rfl) ⟨_,⟨by simp [*],rfl⟩,Am.auto⟩
abbrev Slot:=Option (Bytes×Nat)
def keyB (nm:Bytes):Bytes:=(UInt8.ofNat nm.length :: (nm++List.replicate 50 0)).take 51
theorem keyB_length (nm:Bytes):(keyB nm).length=51:=by
 unfold keyB
 rw [List.length_take,List.length_cons,List.length_append,List.length_replicate]
 omega
abbrev K51:={xs:Bytes // xs.length=51}
def keyK (nm:Bytes):K51:=⟨keyB nm,keyB_length nm⟩
theorem keyB_head (nm:Bytes):(keyB nm)[0]?=some (UInt8.ofNat nm.length):=by
 unfold keyB;rfl
theorem keyB_inj {a b:Bytes} (ha:a.length<=50) (hb:b.length<=50) (h:keyB a=keyB b):a=b:=by
 have h0:UInt8.ofNat a.length=UInt8.ofNat b.length:=by
  have:=congrArg (fun l:Bytes=>l[0]?) h
  simp only [keyB_head,Option.some.injEq] at this
  exact this
 have hl:a.length=b.length:=by
  have:=congrArg UInt8.toNat h0
  rw [UInt8.toNat_ofNat',UInt8.toNat_ofNat'] at this
  omega
 have h1:(a++List.replicate 50 0).take 50=(b++List.replicate 50 0).take 50:=by
  unfold keyB at h
  rw [List.take_succ_cons,List.take_succ_cons] at h
  exact (List.cons.inj h).2
 have h2:=congrArg (List.take a.length) h1
 rw [List.take_take,List.take_take,Nat.min_eq_left ha,List.take_append_of_le_length (Nat.le_refl _),List.take_length,hl,List.take_append_of_le_length (Nat.le_refl _),List.take_length] at h2
 exact h2
theorem put4_append {a b:Bytes} (h:4<=a.length) (v:Nat):put4 (a++b) 0 v=put4 a 0 v++b:=by
 simp only [put4,put,putN,Bool.false_eq_true,if_false]
 rw [List.set_append_left _ _ (by omega),List.set_append_left _ _ (by rw [List.length_set];omega),List.set_append_left _ _ (by rw [List.length_set,List.length_set];omega),List.set_append_left _ _ (by rw [List.length_set,List.length_set,List.length_set];omega)]
def slotB:Slot->Bytes
 | none=>List.replicate 64 0
 | some (nm,i)=>put4 (List.replicate 4 0) 0 i++(keyB nm++List.replicate 9 0)
theorem slotB_made {nm:Bytes} (i:Nat):(put4 (List.replicate 64 0) 0 i).take 4++keyB nm++(put4 (List.replicate 64 0) 0 i).drop 55=slotB (some (nm,i)):=by
 have h1:(List.replicate 64 (0:UInt8))=List.replicate 4 0++List.replicate 60 0:=rfl
 have h4:(put4 (List.replicate 4 0) 0 i).length=4:=by rw [put4_length];rfl
 rw [h1,put4_append (by rw [List.length_replicate];decide),List.take_left' h4,show 55=4+51 from rfl,<-List.drop_drop,List.drop_left' h4,List.append_assoc]
 rfl
theorem keyB_made {nm:Bytes} (h:nm.length<=50):(UInt8.ofNat nm.length :: List.replicate 50 0).take 1++nm.take (min nm.length 50)++(UInt8.ofNat nm.length :: List.replicate 50 0).drop (1+min nm.length 50)=keyB nm:=by
 rw [Nat.min_eq_left h,List.take_length,show 1+nm.length=nm.length+1 from by omega,List.drop_succ_cons,List.drop_replicate]
 have h1:(nm++List.replicate 50 (0:UInt8)).take 50=nm++List.replicate (50 - nm.length) 0:=by
  rw [List.take_append,List.take_of_length_le h,List.take_replicate,Nat.min_eq_left (by omega)]
 show _=UInt8.ofNat nm.length :: ((nm++List.replicate 50 0).take 50)
 rw [h1]
 rfl
theorem slotB_length (s:Slot):(slotB s).length=64:=by
 cases s with
 | none=>exact List.length_replicate
 | some x=>rw [slotB,List.length_append,put4_length,List.length_append,keyB_length,List.length_replicate,List.length_replicate]
def dirB (sl:List Slot):Bytes:=sl.flatMap slotB
theorem dirB_nil:dirB []=[]:=rfl
theorem dirB_append (a b:List Slot):dirB (a++b)=dirB a++dirB b:=List.flatMap_append
theorem dirB_length:∀ sl:List Slot,(dirB sl).length=64 * sl.length
 | []=>rfl
 | s :: sl=>by
  have:=dirB_length sl
  unfold dirB at this ⊢
  rw [List.flatMap_cons,List.length_append,slotB_length,this,List.length_cons];omega
theorem dirB_split {sl:List Slot} {q:Nat} (h:q < sl.length):dirB sl=dirB (sl.take q)++(slotB sl[q]++dirB (sl.drop (q+1))):=by
 have h1:dirB [sl[q]]=slotB sl[q]:=by unfold dirB;rw [List.flatMap_cons,List.flatMap_nil,List.append_nil]
 rw [<- h1,<-dirB_append,<-dirB_append]
 congr 1
 rw [List.singleton_append,List.getElem_cons_drop,List.take_append_drop]
theorem dirB_at {sl:List Slot} {q r k:Nat} (h:q < sl.length) (hk:r+k<=64):((dirB sl).drop (64 * q+r)).take k=((slotB sl[q]).drop r).take k:=by
 have hl:(dirB (sl.take q)).length=64 * q:=by rw [dirB_length,List.length_take];omega
 rw [dirB_split h,<-hl,<-List.drop_drop,List.drop_left,List.drop_append_of_le_length (by rw [slotB_length];omega),List.take_append_of_le_length (by rw [List.length_drop,slotB_length];omega)]
def keyOf:Slot->Bytes
 | none=>List.replicate 51 0
 | some (nm,_)=>keyB nm
theorem slotB_key (s:Slot):((slotB s).drop 4).take 51=keyOf s:=by
 cases s with
 | none=>rfl
 | some x =>
  obtain ⟨nm,i⟩:=x
  have h4:(put4 (List.replicate 4 0) 0 i).length=4:=by rw [put4_length];rfl
  show ((put4 (List.replicate 4 0) 0 i++(keyB nm++List.replicate 9 0)).drop 4).take 51=keyB nm
  rw [List.drop_left' h4,List.take_left' (keyB_length nm)]
theorem dirB_key {sl:List Slot} {q:Nat} (h:q < sl.length):((dirB sl).drop (64 * q+4)).take 51=keyOf sl[q]:=by
 rw [dirB_at h (by decide),slotB_key]
theorem keyOf_length (s:Slot):(keyOf s).length=51:=by
 cases s with
 | none=>exact List.length_replicate
 | some x=>exact keyB_length x.1
theorem num_take {xs:Bytes} {q:Nat}:num xs q=num ((xs.drop q).take 4) 0:=by
 unfold num
 simp only [List.getD_eq_getElem?_getD,List.getElem?_take,List.getElem?_drop,Nat.add_zero,Nat.zero_add]
 rfl
theorem dirB_num {sl:List Slot} {q:Nat} {nm:Bytes} {i:Nat} (h:q < sl.length) (hs:sl[q]=some (nm,i)) (hi:i < 4294967296):num (dirB sl) (64 * q)=i:=by
 have h1:=dirB_at (r:=0) (k:=4) h (by decide)
 have h4:(put4 (List.replicate 4 0) 0 i).length=4:=by rw [put4_length];rfl
 rw [num_take,show 64 * q=64 * q+0 from rfl,h1,hs,List.drop_zero]
 show num ((put4 (List.replicate 4 0) 0 i++(keyB nm++List.replicate 9 0)).take 4) 0=i
 rw [List.take_left' h4]
 exact num_put4 (by rw [List.length_replicate];decide) hi
def setS (sl:List Slot) (q:Nat) (s:Slot):List Slot:=sl.take q++s :: sl.drop (q+1)
theorem setS_wr {sl:List Slot} {q:Nat} (h:q<=sl.length) (s:Slot):wrB (dirB sl) (64 * q) (slotB s)=dirB (setS sl q s):=by
 have hl:=dirB_length sl
 have ht:(dirB (sl.take q)).length=64 * q:=by rw [dirB_length,List.length_take];omega
 have h1:dirB (s :: sl.drop (q+1))=slotB s++dirB (sl.drop (q+1)):=by unfold dirB;rw [List.flatMap_cons]
 unfold setS
 rw [dirB_append,h1]
 unfold wrB splice
 by_cases hq:q < sl.length
 ·have hx:ext (dirB sl) (64 * q+(slotB s).length)=dirB sl:=by
   unfold ext
   rw [slotB_length,show 64 * q+64 - (dirB sl).length=0 from by omega,List.replicate_zero,List.append_nil]
  have e1:(dirB sl).take (64 * q)=dirB (sl.take q):=by
   rw [dirB_split hq,List.take_left' ht]
  have e2:(dirB sl).drop (64 * q+(slotB s).length)=dirB (sl.drop (q+1)):=by
   rw [dirB_split hq,<-List.append_assoc,List.drop_left' (by rw [List.length_append,ht,slotB_length,slotB_length])]
  simp only [hx,e1,e2,List.append_assoc]
 ·have hqe:q=sl.length:=by omega
  have e0:sl.take q=sl:=by rw [hqe,List.take_length]
  have e3:sl.drop (q+1)=[]:=List.drop_eq_nil_of_le (by omega)
  rw [e0,e3,dirB_nil,List.append_nil]
  have e1:(ext (dirB sl) (64 * q+(slotB s).length)).take (64 * q)=dirB sl:=by
   unfold ext
   rw [List.take_left' (by omega)]
  have e2:(ext (dirB sl) (64 * q+(slotB s).length)).drop (64 * q+(slotB s).length)=[]:=by
   refine List.drop_eq_nil_of_le ?_
   unfold ext
   rw [List.length_append,List.length_replicate,slotB_length];omega
  simp only [e1,e2,List.append_nil]
def foundV (at' i:Nat):Value:=.agg #[nI at',nI i]
def stepK (kv:List (K51×Value)) (q:Nat):Slot->List (K51×Value)
 | none=>kv
 | some (nm,i)=>kput kv (keyK nm) (foundV (64 * q) i)
def kvF (sl:List Slot):Nat->List (K51×Value)
 | 0=>[]
 | q+1=>match sl[q]? with
  | some s=>stepK (kvF sl q) q s
  | none=>kvF sl q
def freeF (sl:List Slot):Nat->Option Nat
 | 0=>none
 | q+1=>match freeF sl q with
  | some r=>some r
  | none=>if sl[q]?=some none then some q else none
def freeS (sl:List Slot):Nat:=(freeF sl sl.length).getD sl.length
theorem freeF_some {sl:List Slot}:∀ {n r:Nat},freeF sl n=some r->r < n/\sl[r]?=some none/\∀ j,j < r->sl[j]?≠some none
 | n+1,r,h=>by
  rw [freeF] at h
  cases hf:freeF sl n with
  | some r' =>
   rw [hf] at h
   obtain rfl:r'=r:=by simpa using h
   obtain ⟨h1,h2⟩:=freeF_some hf
   exact ⟨by omega,h2⟩
  | none =>
   rw [hf] at h
   simp only at h
   split at h
   ·rename_i hs
    obtain rfl:n=r:=by simpa using h
    refine ⟨by omega,hs,fun j hj hh=>?_⟩
    have:=freeF_none (sl:=sl) hf j hj
    exact this hh
   ·cases h
where
 freeF_none {sl:List Slot}:∀ {n:Nat},freeF sl n=none->∀ j,j < n->sl[j]?≠some none
 | n+1,h,j,hj=>by
  rw [freeF] at h
  cases hf:freeF sl n with
  | some r'=>rw [hf] at h;cases h
  | none =>
   rw [hf] at h
   simp only at h
   split at h
   ·cases h
   ·rename_i hs
    by_cases hjn:j=n
    ·subst hjn;exact hs
    ·exact freeF_none hf j (by omega)
theorem freeS_le (sl:List Slot):freeS sl<=sl.length:=by
 unfold freeS
 cases h:freeF sl sl.length with
 | none=>exact Nat.le_refl _
 | some r=>exact Nat.le_of_lt (freeF_some h).1
structure DirOk (sl:List Slot):Prop where
 nm:∀ (q:Nat) (n:Bytes) (i:Nat),sl[q]?=some (some (n,i))->(1<=n.length/\n.length<=50)/\i < 4294967296
 one:∀ (q r:Nat) (n:Bytes) (i j:Nat),sl[q]?=some (some (n,i))->sl[r]?=some (some (n,j))->q=r
theorem DirOk.nil:DirOk []:=⟨fun q n i h=>(by cases h),fun q r n i j h=>(by cases h)⟩
theorem keyK_inj {a b:Bytes} (ha:a.length<=50) (hb:b.length<=50) (h:keyK a=keyK b):a=b:=keyB_inj ha hb (congrArg Subtype.val h)
theorem kvF_has {sl:List Slot} (hd:DirOk sl) {q i:Nat} {n:Bytes} (h:sl[q]?=some (some (n,i))):∀ m,q < m->kget (kvF sl m) (keyK n)=some (foundV (64 * q) i)
 | m+1,hm=>by
  rw [kvF]
  by_cases hq:q=m
  ·subst hq
   rw [h]
   show kget (kput (kvF sl q) (keyK n) (foundV (64 * q) i)) (keyK n)=_
   rw [kget_put,if_pos rfl]
  ·have ih:=kvF_has hd h m (by omega)
   cases hs:sl[m]? with
   | none=>exact ih
   | some s =>
    cases s with
    | none=>exact ih
    | some x =>
     obtain ⟨n',i'⟩:=x
     show kget (kput (kvF sl m) (keyK n') (foundV (64 * m) i')) (keyK n)=_
     rw [kget_put,if_neg,ih]
     intro hk
     have:=keyK_inj (hd.nm _ _ _ h).1.2 (hd.nm _ _ _ hs).1.2 hk
     subst this
     exact hq (hd.one _ _ _ _ _ h hs)
theorem kvF_no {sl:List Slot} (hd:DirOk sl) {n:Bytes} (hn:n.length<=50) (h:∀ (q i:Nat),sl[q]?≠some (some (n,i))):∀ m,kget (kvF sl m) (keyK n)=none
 | 0=>rfl
 | m+1=>by
  rw [kvF]
  have ih:=kvF_no hd hn h m
  cases hs:sl[m]? with
  | none=>exact ih
  | some s =>
   cases s with
   | none=>exact ih
   | some x =>
    obtain ⟨n',i'⟩:=x
    show kget (kput (kvF sl m) (keyK n') (foundV (64 * m) i')) (keyK n)=_
    rw [kget_put,if_neg,ih]
    intro hk
    have:=keyK_inj hn (hd.nm _ _ _ hs).1.2 hk
    subst this
    exact h _ _ hs
theorem agg262:aggOk Tryz.prog 262 51=true:=by kernel_rfl
theorem ar262:arrOk Tryz.prog 262 5 51 1=true:=by kernel_rfl
theorem un262:Tryz.prog.underlying 262=some (.array 51 5):=by kernel_rfl
theorem fo51_0:fieldOk Tryz.prog 51 0 0=true:=by kernel_rfl
theorem fo51_1:fieldOk Tryz.prog 51 1 1=true:=by kernel_rfl
theorem mp255:mapOk Tryz.prog 255 262 259=true:=by kernel_rfl
theorem key0:zeroOf Tryz.prog 262=some (bvs (List.replicate 51 0)).toArray:=by kernel_rfl
theorem keyB_single (nm:Bytes):∀ v∈bvs (keyB nm),Value.single v=true:=bvs_single _
theorem bvsK_length (nm:Bytes):(bvs (keyB nm)).length=51:=by rw [bvs_length,keyB_length]
theorem dOf {nm:Bytes} (hn:nm.length<=50):Spec Tryz.prog 177 #[sv nm] [] fun F v M=>v=arrV (keyB nm)/\M=F:=by
 refine Spec.intro Tryz.func177 rfl rfl fun B F=>?_
 simp only [Tryz.ntmps177,List.cons_append,List.nil_append,env0,Nat.reduceAdd]
 refine .sr ?_
 refine .allocL (us:=bvs (List.replicate 51 0)) key0 rfl fun b2=>?_
 refine .x (.move ?_)
 refine .lenT _ ?_ st9
 refine .cvt ?_ un3 un5
 refine .cast (d:=5) (u:=bv (UInt8.ofNat nm.length)) rfl (congrArg (Value.int .u8) (by rw [UInt8.toNat_ofNat',IntWalk.u8_in _ (by omega)];omega)) ?_
 refine .idxA ?_ ar262
 refine .stL (xs:=bvs (List.replicate 51 0)) (i:=0) ?_ sc5 (by rw [bvs_length,List.length_replicate];decide)
 refine .to (A:=row b2 262 ((bvs (List.replicate 51 0)).set 0 (bv (UInt8.ofNat nm.length)))) (A':=buf b2 262 51 (bvs (UInt8.ofNat nm.length :: List.replicate 50 0))) (fun h hh=>buf_of_row (by rw [bvs_length];rfl) h hh) ?_
 refine .x ?_
 refine .slcArrL ?_ ar262
 refine .move ?_
 refine .copyS nm so33 ?_ (hdl:=by rw [bvs_length];exact Nat.le_refl _)
 refine .to (A:=buf b2 262 51 ((bvs (UInt8.ofNat nm.length :: List.replicate 50 0)).take 1++(bvs nm).take (min nm.length 50)++(bvs (UInt8.ofNat nm.length :: List.replicate 50 0)).drop (1+min nm.length 50))) (A':=row b2 262 (bvs (keyB nm))) (fun h hh=>row_of_buf (bvsK_length nm) h (by rw [<- keyB_made hn,bvs_append,bvs_append,bvs_take,bvs_take,bvs_drop];exact hh)) ?_
 refine .x ?_
 refine .ldW (xs:=bvs (keyB nm)) ?_ agg262 (bvsK_length nm)
 refine .stLA (xs:=bvs (keyB nm)) (us:=bvs (keyB nm)) ?_ agg262 (bvsK_length nm) (bvsK_length nm) (keyB_single nm)
 refine .z ?_
 refine .ret (?_)
 exact .ret1 (h1:=RV.aggL rfl agg262 (by repeat (first | exact .here | apply Rem.there | apply Repl.there | apply Mem.there)) (bvsK_length nm)) ⟨_,⟨rfl,rfl⟩,Am.auto⟩
theorem IN.more {s a c:Nat} {p:Pl} {F0 F:FM} {W W':Nat} {op:Bool} (h:W<=W'):∀ k,IN s a c p F0 F W op k->IN s a c p F0 F W' op k:=by
 intro k hk
 obtain ⟨y,hy,hs⟩:=(IN.opens s a c p F0 F W op).to k hk
 exact (IN.opens s a c p F0 F W' op).of y ⟨hy.r0,hy.r,hy.dk,Nat.le_trans hy.wt h⟩ k hs
theorem Rw.less {p:Pl} {W c c':Nat} (h:Rw p W c) (hc:c'<=c):Rw p W c':=by
 unfold Rw at h ⊢
 omega
theorem has_slot (n q:Nat) (h:64 * q<=64 * n):has (max (64 * n) (64 * q+64)) - has (64 * n)<=2:=by
 have h1:dat (max (64 * n) (64 * q+64))<=dat (64 * n)+1:=by unfold dat;omega
 unfold has
 split<;>split<;>omega
theorem slotP {nm:Bytes} (i:Nat):(bvs (put4 (List.replicate 64 0) 0 i)).take 4++(bvs (keyB nm)).take 51++(bvs (put4 (List.replicate 64 0) 0 i)).drop 55=bvs (slotB (some (nm,i))):=by
 rw [<- slotB_made,bvs_append,bvs_append,bvs_take,bvs_drop,List.take_of_length_le (Nat.le_of_eq (bvsK_length nm))]
theorem bdFound (v0 v1:Int):BuildOk Tryz.prog 259 [(0,.int .i64 v0),(1,.int .i64 v1)] #[.int .i64 v0,.int .i64 v1]:=fun w=>by kernel_rfl
theorem arrOkK:arrIntOk Tryz.prog 262 5 51=true:=by kernel_rfl
def encK:K51->Value:=fun k=>Value.agg (bvs k.1).toArray
theorem klN:KeyLaw Tryz.prog 262 encK:=arrKeys (fun k:K51=>k.1) arrOkK (fun k=>k.2) (fun a b h=>Subtype.ext h)
def freeI (sl:List Slot) (q:Nat):Int:=match freeF sl q with
 | some r=>((64 * r:Nat):Int)
 | none=>-1
theorem dLay {s a c:Nat} {p:Pl} {F0 Fm:FM} {W d q i:Nat} {nm:Bytes} {sl:List Slot} (ho:PlOk p) (hF:Fm d=some (2,dirB sl)) (hq:q<=sl.length) (hq2:q < 1104) (hn:nm.length<=50) (hi:i < 4294967296) (hw:Rw p W 13) (hfit:tot Fm p.ino+has (max (64 * sl.length) (64 * q+64))<=p.dc+has (64 * sl.length)) :
  Spec Tryz.prog 178 #[.pointer (some ⟨s,0,none⟩),nI d,nI (64 * q),sv nm,nI i] [IN s a c p F0 Fm W true] fun G v M=>v=okV/\M=IN s a c p F0 (updM Fm d (some (2,dirB (setS sl q (some (nm,i)))))) (W+8) true :: G:=by
 refine Spec.intro Tryz.func178 rfl rfl fun B F=>?_
 simp only [Tryz.ntmps178,List.cons_append,List.nil_append,env0,Nat.reduceAdd]
 have hdl:=dirB_length sl
 have hsl:=slotB_length (some (nm,i))
 have hhs:=has_slot sl.length q (by omega)
 refine .sr (.assign (.x ?_))
 refine .mkSN 64 z5 so33 (by decide) (by decide) fun b15=>?_
 refine .to (A':=buf b15 5 64 (bvs (List.replicate 64 0))) (fun h hh=>by rw [bvs_replicate];exact hh) ?_
 refine .move ?_
 refine .cvt ?_ un3 un134
 refine .cast (d:=17) (u:=.int .u64 (i:Int)) rfl (congrArg (Value.int .u64) (IntWalk.u64_in _ (by omega))) ?_
 refine .call (hc:=Tryz.call74) (sp:=bitsPut (n:=64) (xs:=List.replicate 64 0) (p:=0) (size:=4) (big:=false) (v:=i) Reads.buf List.length_replicate (by decide) (by decide) (by decide) (by decide) (by omega)) (h:=?_)
 rintro _ _ ⟨gb,qq,⟨rfl,h1,h2⟩,rfl⟩
 refine .move ?_
 refine .extract ?_
 refine .extract ?_
 refine .assign (.assign (.x (.move ?_)))
 refine .call (hc:=Tryz.call177) (sp:=dOf hn) (h:=?_)
 rintro _ _ ⟨rfl,rfl⟩
 refine .allocL (us:=bvs (List.replicate 51 0)) key0 rfl fun b13=>?_
 refine .stLA (xs:=bvs (List.replicate 51 0)) (us:=bvs (keyB nm)) ?_ agg262 (bvsK_length nm) rfl (keyB_single nm)
 refine .to (A:=row b13 262 (bvs (keyB nm))) (A':=buf b13 262 51 (bvs (keyB nm))) (fun h hh=>buf_of_row (bvsK_length nm) h hh) ?_
 refine .z (.seq ?_)
 refine .dr ([]) [] 4 mixed .autoJ ?_
 refine .tk 0 rfl .move ?_
 refine .tk 1 rfl ((Qt.slcL so33).eq (v':=.slice (some ⟨gb,4,none⟩) 60 (qq - 4)) (by rw [if_neg (by show ¬ qq=4;omega)];rfl)) ?_
 refine .tk 2 rfl (Qt.slcArr un262 (by kernel_rfl)) ?_
 refine .on 3 rfl fun hnp=>?_
 refine .copy (R:=buf b13 262 51 (bvs (keyB nm))) (m:=51) (g:=gb) (off:=4) (dl:=60) (k:=qq) (xs:=bvs (put4 (List.replicate 64 0) 0 i)) (ys:=bvs (keyB nm)) so33 Reads.buf (bvsK_length nm) (bvs_single _) ?_ (hdl:=by rw [bvs_length,put4_length,List.length_replicate];decide)
 refine .to (A':=buf gb 5 qq (bvs (slotB (some (nm,i))))) (fun h hh=>by rw [<- slotP];exact hh) ?_
 refine .nil (.wa hnp ?_)
 refine .fin ?_
 refine .next (.sr (.move (.move (.move (.move ?_)))))
 refine .call (hc:=Tryz.call71) (sp:=nWrite (s:=s) (a:=a) (c:=c) (p:=p) (F0:=F0) (F:=Fm) (W:=W) (i:=d) (at':=64 * q) (f:=(2,dirB sl)) (bs:=slotB (some (nm,i))) (m:=64) ho hF (hw.less (by show has (max (dirB sl).length (64 * q+64)) - has (dirB sl).length+(64+511) / 512+10<=13;rw [hdl];omega)) (.inr Reads.buf) hsl (by omega) h2 (by show 64 * q<=(dirB sl).length;omega) (by omega) (by show tot Fm p.ino+has (max (dirB sl).length (64 * q+64))<=p.dc+has (dirB sl).length;rw [hdl];exact hfit)) (h:=?_)
 rintro _ _ ⟨rfl,rfl⟩
 refine .assign (.z ?_)
 refine .ret (?_)
 simp only [setS_wr hq]
 refine .to (A':=IN s a c p F0 (updM Fm d (some (2,dirB (setS sl q (some (nm,i)))))) (W+8) true) (fun h hh=>IN.more (by show W+(has (max (dirB sl).length (64 * q+64)) - has (dirB sl).length)+(64+511) / 512+5<=W+8;rw [hdl];omega) h hh) ?_
 exact .ret1 (h1:=.tmp (t:=10) rfl) ⟨_,⟨rfl,rfl⟩,Am.auto⟩
theorem freeI_pos {sl:List Slot} {q r:Nat} (h:freeF sl q=some r):freeI sl q=((64 * r:Nat):Int):=by unfold freeI;rw [h]
theorem freeI_neg {sl:List Slot} {q:Nat} (h:freeF sl q=none):freeI sl q=-1:=by unfold freeI;rw [h]
theorem freeI_keep {sl:List Slot} {q r:Nat} (h:freeF sl q=some r):freeI sl (q+1)=((64 * r:Nat):Int):=freeI_pos (by rw [freeF,h])
theorem freeI_new {sl:List Slot} {q:Nat} (h:freeF sl q=none) (hs:sl[q]?=some none):freeI sl (q+1)=((64 * q:Nat):Int):=freeI_pos (by rw [freeF,h];simp [hs])
theorem freeI_full {sl:List Slot} {q:Nat} {x:Bytes×Nat} (hs:sl[q]?=some (some x)):freeI sl (q+1)=freeI sl q:=by
 unfold freeI
 rw [freeF]
 cases h:freeF sl q with
 | some r=>rfl
 | none=>simp [hs]
theorem keyOf_single (s:Slot):∀ v∈bvs (keyOf s),Value.single v=true:=bvs_single _
theorem bvsO_length (s:Slot):(bvs (keyOf s)).length=51:=by rw [bvs_length,keyOf_length]
theorem dNames {s a c:Nat} {p:Pl} {F0 Fm:FM} {W d:Nat} {op:Bool} {sl:List Slot} (ho:PlOk p) (hF:Fm d=some (2,dirB sl)) (hd:DirOk sl) (hsz:sl.length<=1104) :
  Spec Tryz.prog 185 #[.pointer (some ⟨s,0,none⟩),nI d] [IN s a c p F0 Fm W op] fun G v M=>∃ mp es cl,v=.tuple #[.map (some mp),nI (64 * freeS sl),.int .i64 0]/\MapIs encK es cl (kvF sl sl.length)/\M=pt mp (.map es cl) :: IN s a c p F0 Fm W op :: G:=by
 refine Spec.intro Tryz.func185 rfl rfl fun B F=>?_
 simp only [Tryz.ntmps185,List.cons_append,List.nil_append,env0,Nat.reduceAdd]
 have hdl:=dirB_length sl
 refine .sr (.assign (.assign (.assign (.x (.move (.move ?_))))))
 refine .call (hc:=Tryz.call156) (sp:=nStat (s:=s) (a:=a) (c:=c) (p:=p) (F0:=F0) (F:=Fm) (W:=W) (op:=op) (i:=d) (f:=(2,dirB sl)) ho hF) (h:=?_)
 rintro _ _ ⟨rfl,rfl⟩
 refine .move ?_
 refine .extract ?_
 refine .extract ?_
 refine .alloc z51 fun b7=>?_
 refine .stV ?_ agg51
 refine .assign (.z (.seq (.sr (.move ?_))))
 refine .nei ?_
 refine .z ?_
 refine .condF rfl rfl ?_
 refine .skip (.next (.seq (.sr ?_)))
 refine .fa ?_ fo51_0
 refine .ld ?_ sc3
 refine .nei ?_
 refine .z ?_
 refine .condF rfl rfl ?_
 refine .skip (.next (.sr (.move (.move ?_))))
 refine .fa ?_ fo51_1
 refine .ld ?_ sc3
 refine .call (hc:=Tryz.call107) (sp:=nRead (s:=s) (a:=a) (c:=c) (p:=p) (F0:=F0) (F:=Fm) (W:=W) (op:=op) (i:=d) (at':=0) (k:=(dirB sl).length) (f:=(2,dirB sl)) ho hF (by decide) (by omega)) (h:=?_)
 rintro _ _ ⟨u,rfl,rfl⟩
 simp only [List.drop_zero,List.take_length]
 refine .move ?_
 refine .extract ?_
 refine .extract ?_
 refine .assign (.assign (.z (.seq (.sr (.move ?_)))))
 refine .nei ?_
 refine .z ?_
 refine .condF rfl rfl ?_
 refine .skip (.next (.sr ?_))
 refine .mkMap fun m36=>?_
 refine .assign (.assign (.z (.seq (.sr (.assign (.z (.block ?_)))))))
 refine .fact (rowR_shape (el:=5) (size:=1) (v:=u) (k:=(dirB sl).length) (xs:=bvs (dirB sl))) (fun ⟨A2,c2,hv2,hR2,hk2,hc2,hl2⟩=>?_)
 subst hv2
 refine .loopA (σ:=Nat×Array MapEntry×Nat) (fun y=>[(4,.map (some m36)),(5,.int .i64 (freeI sl y.1)),(8,.slice A2 (dirB sl).length c2),(9,nI (64 * y.1))]) (fun y=>[pt m36 (.map y.2.1 y.2.2),rowR 5 1 (.slice A2 (dirB sl).length c2) (dirB sl).length (bvs (dirB sl)),IN s a c p F0 Fm W op]++F) (fun y=>y.1<=sl.length/\MapIs encK y.2.1 y.2.2 (kvF sl y.1)) (fun y=>sl.length - y.1) (0,#[],0) ⟨Nat.zero_le _,MapIs.empty _ _⟩ ?_
 rintro y hy
 obtain ⟨q,es,cl⟩:=y
 obtain ⟨hq,hm⟩:=hy
 simp only at hq hm
 refine .seq (.sr (.move (.move ?_)))
 refine .lenS ?_ sl33
 refine .lss ?_
 refine .z ?_
 refine .cond rfl (fun hb=>?_) (fun hb=>?_)
 ·have hlt:q < sl.length:=by have h:((64 * q:Nat):Int) < ((dirB sl).length:Int):=of_decide_eq_true hb;omega
  rcases A2 with _ | ⟨ab,ao,asp⟩
  ·exact absurd hR2 (fun h=>by have h2:bvs (dirB sl)=[]:=h;have h3:(dirB sl).length=0:=(by have:=congrArg List.length h2;rwa [bvs_length] at this);omega)
  have hsp:asp=none:=hR2.1
  subst hsp
  have hp1:(((64 * q:Nat):Int)+4).toNat=64 * q+4:=by omega
  have hp2:(((64 * q:Nat):Int)+4+51).toNat=64 * q+55:=by omega
  have hgs:sl[q]?=some sl[q]:=List.getElem?_eq_getElem hlt
  obtain ⟨sq,hsq⟩:∃ sq,sl[q]=sq:=⟨_,rfl⟩
  have hkq:=dirB_key hlt
  rw [hsq] at hgs hkq
  have hkv:kvF sl (q+1)=stepK (kvF sl q) q sq:=by rw [kvF,hgs]
  refine .skip (.next (.seq (.block (.sr (.move (.move ?_))))))
  refine .add ?_
  refine .move ?_
  refine .add ?_
  refine .add ?_
  refine .slcLH ?_ so33
  refine .cast (d:=49) (u:=.slice (some ⟨ab,ao+(64 * q+4),none⟩) 51 (c2 - (64 * q+4))) rfl (by rw [hp1,hp2,if_neg (show ¬ c2=64 * q+4 by omega),Nat.mul_one,show 64 * q+55 - (64 * q+4)=51 from by omega]) ?_
  refine .toArr ?_ un262
  refine .ldAR (i:=64 * q+4) (xs:=bvs (dirB sl)) (us:=bvs (keyOf sq)) ?_ agg262 hR2 (by rw [<- bvs_drop,<-bvs_take,hkq]) (by rw [bvs_length];omega)
  refine .allocL (us:=bvs (List.replicate 51 0)) key0 rfl fun b10=>?_
  refine .stLA (xs:=bvs (List.replicate 51 0)) (us:=bvs (keyOf sq)) ?_ agg262 (bvsO_length sq) rfl (keyOf_single sq)
  refine .z (.seq (.sr ?_))
  refine .idxA ?_ ar262
  cases sq
  ·refine .ldL (xs:=bvs (keyOf none)) (i:=0) (v:=.int .u8 0) ?_ sc5 rfl
   refine .eqi ?_
   refine .z ?_
   refine .condT rfl rfl ?_
   refine .seq (.sr (.move ?_))
   refine .lss ?_
   refine .z ?_
   cases hfr:freeF sl q
   ·rw [freeI_neg hfr]
    refine .condT rfl rfl ?_
    refine .region (.move (.assign (.z ?_)))
    refine .exit (.thenExit (.blockExit (?_)))
    refine .next (.region (.move ?_))
    refine .add ?_
    refine .assign (.nil ?_)
    refine .cast (d:=9) (u:=nI (64 * (q+1))) rfl (congrArg (Value.int .i64) (by omega)) ?_
    refine .cast (d:=5) (u:=.int .i64 (freeI sl (q+1))) rfl (congrArg (Value.int .i64) (by rw [freeI_new hfr hgs])) ?_
    exact .back (q+1,es,cl) ⟨by show q+1<=sl.length;omega,(by rw [hkv];exact hm)⟩ (by show sl.length - (q+1) < sl.length - q;omega)
   ·rename_i r
    rw [freeI_pos hfr]
    refine .condF rfl (congrArg Value.bool (by first|simp;done|simp;omega|omega)) ?_
    refine .skip (.next ?_)
    refine .exit (.thenExit (.blockExit (?_)))
    refine .next (.region (.move ?_))
    refine .add ?_
    refine .assign (.nil ?_)
    refine .cast (d:=9) (u:=nI (64 * (q+1))) rfl (congrArg (Value.int .i64) (by omega)) ?_
    refine .cast (d:=5) (u:=.int .i64 (freeI sl (q+1))) rfl (congrArg (Value.int .i64) (by rw [freeI_keep hfr])) ?_
    exact .back (q+1,es,cl) ⟨by show q+1<=sl.length;omega,(by rw [hkv];exact hm)⟩ (by show sl.length - (q+1) < sl.length - q;omega)
  ·rename_i x
   obtain ⟨nm,i⟩:=x
   have hnm:=hd.nm q nm i hgs
   have hnum:=dirB_num hlt hsq hnm.2
   have hx0:(bvs (keyOf (some (nm,i))))[0]?=some (bv (UInt8.ofNat nm.length)):=by show (bvs (keyB nm))[0]?=_;unfold bvs;rw [List.getElem?_map,keyB_head];rfl
   have hxn:((UInt8.ofNat nm.length).toNat:Int)≠0:=by rw [UInt8.toNat_ofNat'];omega
   refine .ldL (xs:=bvs (keyOf (some (nm,i)))) (i:=0) (v:=bv (UInt8.ofNat nm.length)) ?_ sc5 hx0
   refine .eqi ?_
   refine .cast (d:=54) (u:=.bool false) rfl (congrArg Value.bool (decide_eq_false hxn)) ?_
   refine .z ?_
   refine .condF rfl rfl ?_
   refine .skip (.next (.sr (.move (.move ?_))))
   refine .call (hc:=Tryz.call143) (sp:=bitsGet (A:=⟨ab,ao,none⟩) (n:=(dirB sl).length) (c:=c2) (xs:=dirB sl) (p:=((64 * q:Nat):Int)) (size:=4) (big:=false) hR2 rfl (by omega) (by decide) (by omega) (by omega)) (h:=?_)
   rintro _ _ ⟨rfl,rfl⟩
   refine .cast (d:=61) (u:=.tuple #[.int .u64 (i:Int),.bool true]) rfl (by rw [show (((64 * q:Nat):Int)).toNat=64 * q from by omega,show (4:Int).toNat=4 from rfl,num_seg (by omega),hnum]) ?_
   refine .move ?_
   refine .extract ?_
   refine .extract ?_
   refine .assign (.assign (.y (.move ?_)))
   refine .ldW (xs:=bvs (keyOf (some (nm,i)))) ?_ agg262 (bvsO_length _)
   refine .move (.move ?_)
   refine .cvt ?_ un134 un3
   refine .cast (d:=68) (u:=nI i) rfl (congrArg (Value.int .i64) (IntWalk.i64_in _ (by omega))) ?_
   refine .build ?_ (bdFound _ _)
   refine .upd (k:=keyK nm) (v:=foundV (64 * q) i) klN hm mp255 fun es_1 c_1 hm_1=>?_
   refine .nil (.blockNormal (.next (.region (.move ?_))))
   refine .add ?_
   refine .assign (.nil ?_)
   refine .cast (d:=9) (u:=nI (64 * (q+1))) rfl (congrArg (Value.int .i64) (by omega)) ?_
   refine .cast (d:=5) (u:=.int .i64 (freeI sl (q+1))) rfl (congrArg (Value.int .i64) (by rw [freeI_full hgs])) ?_
   exact .back (q+1,es_1,c_1) ⟨by show q+1<=sl.length;omega,(by rw [hkv];exact hm_1)⟩ (by show sl.length - (q+1) < sl.length - q;omega)
 ·have hge:¬ q < sl.length:=by have h:¬ ((64 * q:Nat):Int) < ((dirB sl).length:Int):=of_decide_eq_false hb;omega
  have hqe:q=sl.length:=by omega
  subst hqe
  refine .exit (.thenExit (.thenExit (.blockExit (?_))))
  refine .next (.seq (.sr (.move ?_)))
  refine .lss ?_
  refine .z ?_
  cases hfr:freeF sl sl.length
  ·have hfs:freeS sl=sl.length:=by unfold freeS;rw [hfr];rfl
   rw [freeI_neg hfr]
   refine .condT rfl rfl ?_
   refine .region (.move ?_)
   refine .lenS ?_ sl33
   refine .assign (.x (.move (.move (.assign (.assign (.assign (.z ?_)))))))
   refine .ret (?_)
   exact .ret3 (h1:=.tmp (t:=4) rfl) (h2:=.tmp (t:=5) rfl) (h3:=.tmp (t:=6) rfl) ⟨_,⟨m36,es,cl,by rw [hfs,<-hdl];rfl,hm,rfl⟩,Am.auto⟩
  ·rename_i r
   have hfs:freeS sl=r:=by unfold freeS;rw [hfr];rfl
   rw [freeI_pos hfr]
   refine .condF rfl (congrArg Value.bool (by first|simp;done|simp;omega|omega)) ?_
   refine .skip (.next (.sr (.move (.move (.assign (.assign (.assign (.z ?_))))))))
   refine .ret (?_)
   exact .ret3 (h1:=.tmp (t:=4) rfl) (h2:=.tmp (t:=5) rfl) (h3:=.tmp (t:=6) rfl) ⟨_,⟨m36,es,cl,by rw [hfs];rfl,hm,rfl⟩,Am.auto⟩
theorem zv259:zvOf Tryz.prog 259=some (.agg (#[.int .i64 0,.int .i64 0])):=by kernel_rfl
theorem z259:zeroOf Tryz.prog 259=some (#[.int .i64 0,.int .i64 0]):=by kernel_rfl
theorem agg259:aggOk Tryz.prog 259 2=true:=by kernel_rfl
theorem fo259_1:fieldOk Tryz.prog 259 1 1=true:=by kernel_rfl
theorem fo259_0:fieldOk Tryz.prog 259 0 0=true:=by kernel_rfl
theorem nReady {s a c:Nat} {p:Pl} {F0 Fm:FM} {W:Nat} {op:Bool}:Spec Tryz.prog 210 #[.pointer (some ⟨s,0,none⟩)] [IN s a c p F0 Fm W op] fun G v M=>v=.bool op/\M=IN s a c p F0 Fm W op :: G:=by
 refine Spec.opens (IN.opens s a c p F0 Fm W op) fun y hy=>((inReady (s:=s) (c:=c) (a:=a) (n:=p.n) (p:=p) (V0:=y.1) (V:=y.2.1) (D:=y.2.2) (op:=op)).mid).post ?_
 rintro G v M ⟨rfl,rfl⟩
 exact ⟨_,⟨rfl,rfl⟩,Wk.trans (Am.wk Am.auto) (Wk.shutR (M:=G) (IN.opens s a c p F0 Fm W op) y hy)⟩
def FindErr (nm:Bytes) (F:FM) (d:Int) (e:Int):Prop :=
 (nameOk nm=false/\e=1) ∨ (nameOk nm=true/\fileAt F d=none/\e=4) ∨ (nameOk nm=true/\(∃ k b,0<=d/\F d.toNat=some (k,b)/\k≠2)/\e=6)
theorem nameOk_len {nm:Bytes} (h:nameOk nm=true):1<=nm.length/\nm.length<=50:=by
 unfold nameOk at h
 simp only [Bool.and_eq_true,Bool.not_eq_true',decide_eq_false_iff_not,decide_eq_true_iff] at h
 obtain ⟨h1,h2,_⟩:=h
 refine ⟨?_,h2⟩
 cases nm with
 | nil=>exact absurd rfl h1
 | cons _ _=>rw [List.length_cons];omega
theorem dNamesNo {s a c:Nat} {p:Pl} {F0 Fm:FM} {W:Nat} {d:Int} {op:Bool} (ho:PlOk p) (hF:fileAt Fm d=none):Spec Tryz.prog 185 #[.pointer (some ⟨s,0,none⟩),.int .i64 d] [IN s a c p F0 Fm W op] fun G v M=>v=.tuple #[.map none,.int .i64 0,.int .i64 4]/\M=IN s a c p F0 Fm W op :: G:=by
 refine Spec.intro Tryz.func185 rfl rfl fun B F=>?_
 simp only [Tryz.ntmps185,List.cons_append,List.nil_append,env0,Nat.reduceAdd]
 refine .sr (.assign (.assign (.assign (.x (.move (.move ?_))))))
 refine .call (hc:=Tryz.call156) (sp:=nStatNo (s:=s) (a:=a) (c:=c) (p:=p) (F0:=F0) (F:=Fm) (W:=W) (op:=op) (i:=d) ho hF) (h:=?_)
 rintro _ _ ⟨rfl,rfl⟩
 refine .move ?_
 refine .extract ?_
 refine .extract ?_
 refine .alloc z51 fun b7=>?_
 refine .stV ?_ agg51
 refine .assign (.z (.seq (.sr (.move ?_))))
 refine .nei ?_
 refine .z ?_
 refine .condT rfl rfl ?_
 refine .sr (.move (.assign (.assign (.assign (.z ?_)))))
 refine .ret (.thenRet (?_))
 exact .ret3 (h1:=.tmp (t:=4) rfl) (h2:=.tmp (t:=5) rfl) (h3:=.tmp (t:=6) rfl) ⟨_,⟨rfl,rfl⟩,Am.auto⟩
theorem dNamesKind {s a c:Nat} {p:Pl} {F0 Fm:FM} {W:Nat} {d k:Nat} {b:Bytes} {op:Bool} (ho:PlOk p) (hF:Fm d=some (k,b)) (hk:k≠2):Spec Tryz.prog 185 #[.pointer (some ⟨s,0,none⟩),nI d] [IN s a c p F0 Fm W op] fun G v M=>v=.tuple #[.map none,.int .i64 0,.int .i64 6]/\M=IN s a c p F0 Fm W op :: G:=by
 refine Spec.intro Tryz.func185 rfl rfl fun B F=>?_
 simp only [Tryz.ntmps185,List.cons_append,List.nil_append,env0,Nat.reduceAdd]
 refine .sr (.assign (.assign (.assign (.x (.move (.move ?_))))))
 refine .call (hc:=Tryz.call156) (sp:=nStat (s:=s) (a:=a) (c:=c) (p:=p) (F0:=F0) (F:=Fm) (W:=W) (op:=op) (i:=d) (f:=(k,b)) ho hF) (h:=?_)
 rintro _ _ ⟨rfl,rfl⟩
 refine .move ?_
 refine .extract ?_
 refine .extract ?_
 refine .alloc z51 fun b7=>?_
 refine .stV ?_ agg51
 refine .assign (.z (.seq (.sr (.move ?_))))
 refine .nei ?_
 refine .z ?_
 refine .condF rfl rfl ?_
 refine .skip (.next (.seq (.sr ?_)))
 refine .fa ?_ fo51_0
 refine .ld ?_ sc3
 refine .nei ?_
 refine .z ?_
 refine .condT rfl (congrArg Value.bool (by first|simp;done|simp;omega|omega)) ?_
 refine .sr (.assign (.assign (.assign (.z ?_))))
 refine .ret (.thenRet (?_))
 exact .ret3 (h1:=.tmp (t:=4) rfl) (h2:=.tmp (t:=5) rfl) (h3:=.tmp (t:=6) rfl) ⟨_,⟨rfl,rfl⟩,Am.auto⟩
theorem dNamesErr {s a c:Nat} {p:Pl} {F0 Fm:FM} {W:Nat} {d:Int} {op:Bool} {nm:Bytes} {e:Int} (ho:PlOk p) (hn:nameOk nm=true) (he:FindErr nm Fm d e):Spec Tryz.prog 185 #[.pointer (some ⟨s,0,none⟩),.int .i64 d] [IN s a c p F0 Fm W op] fun G v M=>v=.tuple #[.map none,.int .i64 0,.int .i64 e]/\M=IN s a c p F0 Fm W op :: G:=by
 rcases he with ⟨h,_⟩ | ⟨_,h,rfl⟩ | ⟨_,⟨k,b,h0,h,hk⟩,rfl⟩
 ·rw [hn] at h;cases h
 ·exact dNamesNo ho h
 ·have:=dNamesKind (s:=s) (a:=a) (c:=c) (F0:=F0) (W:=W) (op:=op) ho h hk
  rwa [show nI d.toNat=.int .i64 d from congrArg (Value.int .i64) (by omega)] at this
theorem dChg {s a c:Nat} {p:Pl} {F0 Fm:FM} {W:Nat} {d:Nat} {nm:Bytes} {sl:List Slot} (ho:PlOk p) (hn:nameOk nm=true) (hF:Fm d=some (2,dirB sl)) (hd:DirOk sl) (hsz:sl.length<=1104) :
  Spec Tryz.prog 176 #[.pointer (some ⟨s,0,none⟩),nI d,sv nm] [IN s a c p F0 Fm W true] fun G v M=>∃ mp es cl,v=.tuple #[.map (some mp),nI (64 * freeS sl),.int .i64 0]/\MapIs encK es cl (kvF sl sl.length)/\M=pt mp (.map es cl) :: IN s a c p F0 Fm W true :: G:=by
 refine Spec.intro Tryz.func176 rfl rfl fun B F=>?_
 simp only [Tryz.ntmps176,List.cons_append,List.nil_append,env0,Nat.reduceAdd]
 refine .sr (.assign (.assign (.assign (.z (.seq (.sr (.move ?_)))))))
 refine .call (hc:=Tryz.call210) (sp:=nReady (s:=s) (a:=a) (c:=c) (p:=p) (F0:=F0) (Fm:=Fm) (W:=W) (op:=true)) (h:=?_)
 rintro _ _ ⟨rfl,rfl⟩
 refine .not ?_
 refine .z ?_
 refine .condF rfl rfl ?_
 refine .skip (.next (.seq (.sr (.move ?_))))
 refine .call (hc:=Tryz.call234) (sp:=dName (xs:=nm)) (h:=?_)
 rintro _ _ ⟨rfl,rfl⟩
 rw [hn]
 refine .not ?_
 refine .z ?_
 refine .condF rfl rfl ?_
 refine .skip (.next (.sr (.move (.move ?_))))
 refine .call (hc:=Tryz.call185) (sp:=dNames (s:=s) (a:=a) (c:=c) (p:=p) (F0:=F0) (Fm:=Fm) (W:=W) (d:=d) (op:=true) ho hF hd hsz) (h:=?_)
 rintro _ _ ⟨mp,es,cl,rfl,hm,rfl⟩
 refine .extract ?_
 refine .extract ?_
 refine .extract ?_
 refine .assign (.assign (.assign (.z ?_)))
 refine .ret (?_)
 exact .ret3 (h1:=.tmp (t:=6) rfl) (h2:=.tmp (t:=7) rfl) (h3:=.tmp (t:=8) rfl) ⟨_,⟨mp,es,cl,rfl,hm,rfl⟩,Am.auto⟩
theorem dAdd {s a c:Nat} {p:Pl} {F0 Fm:FM} {W:Nat} {d:Nat} {nm:Bytes} {sl:List Slot} (ho:PlOk p) (hn:nameOk nm=true) (hF:Fm d=some (2,dirB sl)) (hd:DirOk sl) (hsz:sl.length<=1104) (hno:∀ (q i:Nat),sl[q]?≠some (some (nm,i))) {i:Nat} (hi:i < 4294967296) (hw:Rw p W 13) (hfs:freeS sl < 1104) (hfit:tot Fm p.ino+has (max (64 * sl.length) (64 * freeS sl+64))<=p.dc+has (64 * sl.length)):Spec Tryz.prog 98 #[.pointer (some ⟨s,0,none⟩),nI d,sv nm,nI i] [IN s a c p F0 Fm W true] fun G v M=>v=okV/\M=IN s a c p F0 (updM Fm d (some (2,dirB (setS sl (freeS sl) (some (nm,i)))))) (W+8) true :: G:=by
 refine Spec.intro Tryz.func98 rfl rfl fun B F=>?_
 simp only [Tryz.ntmps98,List.cons_append,List.nil_append,env0,Nat.reduceAdd]
 refine .sr (.assign (.x (.move (.move (.move ?_)))))
 refine .call (hc:=Tryz.call176) (sp:=dChg (s:=s) (a:=a) (c:=c) (p:=p) (F0:=F0) (Fm:=Fm) (W:=W) (d:=d) (nm:=nm) ho hn hF hd hsz) (h:=?_)
 rintro _ _ ⟨mp,es,cl,rfl,hm,rfl⟩
 refine .move ?_
 refine .extract ?_
 refine .extract ?_
 refine .extract ?_
 refine .assign (.assign (.assign (.z (.seq (.sr (.move ?_))))))
 refine .nei ?_
 refine .z ?_
 refine .condF rfl rfl ?_
 refine .skip (.next (.seq (.sr (.move (.move ?_)))))
 refine .call (hc:=Tryz.call177) (sp:=dOf (nameOk_len hn).2) (h:=?_)
 rintro _ _ ⟨rfl,rfl⟩
 refine .lookOk (k:=keyK nm) klN hm mp255 zv259 ?_
 refine .cast (d:=29) (u:=.tuple #[.agg #[.int .i64 0,.int .i64 0],.bool false]) rfl (by rw [kvF_no hd (nameOk_len hn).2 hno];rfl) ?_
 refine .move ?_
 refine .extract ?_
 refine .extract ?_
 refine .alloc z259 fun b12=>?_
 refine .stV ?_ agg259
 refine .assign (.x (.move (.z ?_)))
 refine .condF rfl rfl ?_
 refine .skip (.next (.sr (.move (.move (.move (.move (.move ?_)))))))
 refine .call (hc:=Tryz.call178) (sp:=dLay (s:=s) (a:=a) (c:=c) (p:=p) (F0:=F0) (Fm:=Fm) (W:=W) (d:=d) (q:=freeS sl) (i:=i) (nm:=nm) (sl:=sl) ho hF (freeS_le sl) hfs (nameOk_len hn).2 hi hw hfit) (h:=?_)
 rintro _ _ ⟨rfl,rfl⟩
 refine .assign (.z ?_)
 refine .ret (?_)
 exact .ret1 (h1:=.tmp (t:=8) rfl) ⟨_,⟨rfl,rfl⟩,Am.auto⟩
theorem dFindE {s a c:Nat} {p:Pl} {F0 Fm:FM} {W:Nat} {d:Int} {op:Bool} {nm:Bytes} {e:Int} (ho:PlOk p) (he:FindErr nm Fm d e) (he0:e≠0):Spec Tryz.prog 184 #[.pointer (some ⟨s,0,none⟩),.int .i64 d,sv nm] [IN s a c p F0 Fm W op] fun G v M=>v=.tuple #[.int .i64 0,.int .i64 e]/\M=IN s a c p F0 Fm W op :: G:=by
 refine Spec.intro Tryz.func184 rfl rfl fun B F=>?_
 simp only [Tryz.ntmps184,List.cons_append,List.nil_append,env0,Nat.reduceAdd]
 cases hn:nameOk nm
 ·have he1:e=1:=by
   rcases he with ⟨_,h⟩ | ⟨h,_⟩ | ⟨h,_⟩
   ·exact h
   ·rw [hn] at h;cases h
   ·rw [hn] at h;cases h
  subst he1
  refine .sr (.assign (.assign (.z (.seq (.sr (.move ?_))))))
  refine .call (hc:=Tryz.call234) (sp:=dName (xs:=nm)) (h:=?_)
  rintro _ _ ⟨rfl,rfl⟩
  rw [hn]
  refine .not ?_
  refine .z ?_
  refine .condT rfl rfl ?_
  refine .sr (.assign (.assign (.z ?_)))
  refine .ret (.thenRet (?_))
  exact .ret2 (h1:=.tmp (t:=6) rfl) (h2:=.tmp (t:=7) rfl) ⟨_,⟨rfl,rfl⟩,Am.auto⟩
 ·refine .sr (.assign (.assign (.z (.seq (.sr (.move ?_))))))
  refine .call (hc:=Tryz.call234) (sp:=dName (xs:=nm)) (h:=?_)
  rintro _ _ ⟨rfl,rfl⟩
  rw [hn]
  refine .not ?_
  refine .z ?_
  refine .condF rfl rfl ?_
  refine .skip (.next (.sr (.move (.move ?_))))
  refine .call (hc:=Tryz.call185) (sp:=dNamesErr (s:=s) (a:=a) (c:=c) (p:=p) (F0:=F0) (Fm:=Fm) (W:=W) (d:=d) (op:=op) ho hn he) (h:=?_)
  rintro _ _ ⟨rfl,rfl⟩
  refine .move ?_
  refine .extract ?_
  refine .extract ?_
  refine .extract ?_
  refine .assign (.assign (.assign (.z (.seq (.sr (.move ?_))))))
  refine .nei ?_
  refine .z ?_
  refine .condT rfl (congrArg Value.bool (by first|simp;done|simp;omega|omega)) ?_
  refine .sr (.move (.assign (.assign (.z ?_))))
  refine .ret (.thenRet (?_))
  exact .ret2 (h1:=.tmp (t:=6) rfl) (h2:=.tmp (t:=7) rfl) ⟨_,⟨rfl,rfl⟩,Am.auto⟩
theorem dFind {s a c:Nat} {p:Pl} {F0 Fm:FM} {W:Nat} {d:Nat} {op:Bool} {nm:Bytes} {sl:List Slot} (ho:PlOk p) (hn:nameOk nm=true) (hF:Fm d=some (2,dirB sl)) (hd:DirOk sl) (hsz:sl.length<=1104) {q j:Nat} (hq:sl[q]?=some (some (nm,j))):Spec Tryz.prog 184 #[.pointer (some ⟨s,0,none⟩),nI d,sv nm] [IN s a c p F0 Fm W op] fun G v M=>v=.tuple #[nI j,.int .i64 0]/\M=IN s a c p F0 Fm W op :: G:=by
 refine Spec.intro Tryz.func184 rfl rfl fun B F=>?_
 simp only [Tryz.ntmps184,List.cons_append,List.nil_append,env0,Nat.reduceAdd]
 have hlt:q < sl.length:=by
  by_cases h:q < sl.length
  ·exact h
  ·rw [List.getElem?_eq_none (by omega)] at hq;cases hq
 refine .sr (.assign (.assign (.z (.seq (.sr (.move ?_))))))
 refine .call (hc:=Tryz.call234) (sp:=dName (xs:=nm)) (h:=?_)
 rintro _ _ ⟨rfl,rfl⟩
 rw [hn]
 refine .not ?_
 refine .z ?_
 refine .condF rfl rfl ?_
 refine .skip (.next (.sr (.move (.move ?_))))
 refine .call (hc:=Tryz.call185) (sp:=dNames (s:=s) (a:=a) (c:=c) (p:=p) (F0:=F0) (Fm:=Fm) (W:=W) (d:=d) (op:=op) ho hF hd hsz) (h:=?_)
 rintro _ _ ⟨mp,es,cl,rfl,hm,rfl⟩
 refine .move ?_
 refine .extract ?_
 refine .extract ?_
 refine .extract ?_
 refine .assign (.assign (.assign (.z (.seq (.sr (.move ?_))))))
 refine .nei ?_
 refine .z ?_
 refine .condF rfl rfl ?_
 refine .skip (.next (.sr (.move (.move ?_))))
 refine .call (hc:=Tryz.call177) (sp:=dOf (nameOk_len hn).2) (h:=?_)
 rintro _ _ ⟨rfl,rfl⟩
 refine .lookOk (k:=keyK nm) klN hm mp255 zv259 ?_
 refine .cast (d:=30) (u:=.tuple #[.agg #[nI (64 * q),nI j],.bool true]) rfl (by rw [kvF_has hd hq sl.length hlt];rfl) ?_
 refine .move ?_
 refine .extract ?_
 refine .extract ?_
 refine .alloc z259 fun b11=>?_
 refine .stV ?_ agg259
 refine .assign (.z (.seq (.sr (.move ?_))))
 refine .not ?_
 refine .z ?_
 refine .condF rfl rfl ?_
 refine .skip (.next (.sr ?_))
 refine .fa ?_ fo259_1
 refine .ld ?_ sc3
 refine .assign (.assign (.z ?_))
 refine .ret (?_)
 exact .ret2 (h1:=.tmp (t:=6) rfl) (h2:=.tmp (t:=7) rfl) ⟨_,⟨rfl,rfl⟩,Am.auto⟩
theorem dFindNo {s a c:Nat} {p:Pl} {F0 Fm:FM} {W:Nat} {d:Nat} {op:Bool} {nm:Bytes} {sl:List Slot} (ho:PlOk p) (hn:nameOk nm=true) (hF:Fm d=some (2,dirB sl)) (hd:DirOk sl) (hsz:sl.length<=1104) (hno:∀ (q i:Nat),sl[q]?≠some (some (nm,i))):Spec Tryz.prog 184 #[.pointer (some ⟨s,0,none⟩),nI d,sv nm] [IN s a c p F0 Fm W op] fun G v M=>v=.tuple #[.int .i64 0,.int .i64 4]/\M=IN s a c p F0 Fm W op :: G:=by
 refine Spec.intro Tryz.func184 rfl rfl fun B F=>?_
 simp only [Tryz.ntmps184,List.cons_append,List.nil_append,env0,Nat.reduceAdd]
 refine .sr (.assign (.assign (.z (.seq (.sr (.move ?_))))))
 refine .call (hc:=Tryz.call234) (sp:=dName (xs:=nm)) (h:=?_)
 rintro _ _ ⟨rfl,rfl⟩
 rw [hn]
 refine .not ?_
 refine .z ?_
 refine .condF rfl rfl ?_
 refine .skip (.next (.sr (.move (.move ?_))))
 refine .call (hc:=Tryz.call185) (sp:=dNames (s:=s) (a:=a) (c:=c) (p:=p) (F0:=F0) (Fm:=Fm) (W:=W) (d:=d) (op:=op) ho hF hd hsz) (h:=?_)
 rintro _ _ ⟨mp,es,cl,rfl,hm,rfl⟩
 refine .move ?_
 refine .extract ?_
 refine .extract ?_
 refine .extract ?_
 refine .assign (.assign (.assign (.z (.seq (.sr (.move ?_))))))
 refine .nei ?_
 refine .z ?_
 refine .condF rfl rfl ?_
 refine .skip (.next (.sr (.move (.move ?_))))
 refine .call (hc:=Tryz.call177) (sp:=dOf (nameOk_len hn).2) (h:=?_)
 rintro _ _ ⟨rfl,rfl⟩
 refine .lookOk (k:=keyK nm) klN hm mp255 zv259 ?_
 refine .cast (d:=30) (u:=.tuple #[.agg #[.int .i64 0,.int .i64 0],.bool false]) rfl (by rw [kvF_no hd (nameOk_len hn).2 hno];rfl) ?_
 refine .move ?_
 refine .extract ?_
 refine .extract ?_
 refine .alloc z259 fun b11=>?_
 refine .stV ?_ agg259
 refine .assign (.z (.seq (.sr (.move ?_))))
 refine .not ?_
 refine .z ?_
 refine .condT rfl rfl ?_
 refine .sr (.assign (.assign (.z ?_)))
 refine .ret (.thenRet (?_))
 exact .ret2 (h1:=.tmp (t:=6) rfl) (h2:=.tmp (t:=7) rfl) ⟨_,⟨rfl,rfl⟩,Am.auto⟩
theorem dRemove {s a c:Nat} {p:Pl} {F0 Fm:FM} {W:Nat} {d:Nat} {nm:Bytes} {sl:List Slot} (ho:PlOk p) (hn:nameOk nm=true) (hF:Fm d=some (2,dirB sl)) (hd:DirOk sl) (hsz:sl.length<=1104) {q j:Nat} (hq:sl[q]?=some (some (nm,j))) (hw:Rw p W 13) (hfit:tot Fm p.ino<=p.dc):Spec Tryz.prog 100 #[.pointer (some ⟨s,0,none⟩),nI d,sv nm] [IN s a c p F0 Fm W true] fun G v M=>v=okV/\M=IN s a c p F0 (updM Fm d (some (2,dirB (setS sl q none)))) (W+8) true :: G:=by
 refine Spec.intro Tryz.func100 rfl rfl fun B F=>?_
 simp only [Tryz.ntmps100,List.cons_append,List.nil_append,env0,Nat.reduceAdd]
 have hlt:q < sl.length:=by
  by_cases h:q < sl.length
  ·exact h
  ·rw [List.getElem?_eq_none (by omega)] at hq;cases hq
 have hmx:max (64 * sl.length) (64 * q+64)=64 * sl.length:=by omega
 have hdl:=dirB_length sl
 have hsl:=slotB_length none
 have hhs:=has_slot sl.length q (by omega)
 refine .sr (.assign (.x (.move (.move (.move ?_)))))
 refine .call (hc:=Tryz.call176) (sp:=dChg (s:=s) (a:=a) (c:=c) (p:=p) (F0:=F0) (Fm:=Fm) (W:=W) (d:=d) (nm:=nm) ho hn hF hd hsz) (h:=?_)
 rintro _ _ ⟨mp,es,cl,rfl,hm,rfl⟩
 refine .move ?_
 refine .extract ?_
 refine .extract ?_
 refine .extract ?_
 refine .assign (.assign (.assign (.z (.seq (.sr (.move ?_))))))
 refine .nei ?_
 refine .z ?_
 refine .condF rfl rfl ?_
 refine .skip (.next (.sr (.move (.move ?_))))
 refine .call (hc:=Tryz.call177) (sp:=dOf (nameOk_len hn).2) (h:=?_)
 rintro _ _ ⟨rfl,rfl⟩
 refine .lookOk (k:=keyK nm) klN hm mp255 zv259 ?_
 refine .cast (d:=27) (u:=.tuple #[.agg #[nI (64 * q),nI j],.bool true]) rfl (by rw [kvF_has hd hq sl.length hlt];rfl) ?_
 refine .move ?_
 refine .extract ?_
 refine .extract ?_
 refine .alloc z259 fun b10=>?_
 refine .stV ?_ agg259
 refine .assign (.z (.seq (.sr (.move ?_))))
 refine .not ?_
 refine .z ?_
 refine .condF rfl rfl ?_
 refine .skip (.next (.seq ?_))
 refine .dr ([pt b10 (.cells #[nI (64 * q),nI j] 259 (0,0))]) [] 7 mixed .autoJ ?_
 refine .tk 0 rfl .move ?_
 refine .tk 1 rfl .move ?_
 refine .tk 2 rfl (.fa fo259_0) ?_
 refine .tk 3 rfl (.ld sc3) ?_
 refine .on 4 rfl fun hnp=>?_
 refine .mkSN 64 z5 so33 (by decide) (by decide) fun b36=>?_
 refine .nil (.wa hnp ?_)
 refine .on 5 rfl fun hnp=>?_
 refine .to (A':=buf b36 5 64 (bvs (slotB none))) (fun h hh=>by show buf _ _ _ (bvs (List.replicate 64 0)) _;rw [bvs_replicate];exact hh) ?_
 refine .call (hc:=Tryz.call71) (sp:=nWrite (s:=s) (a:=a) (c:=c) (p:=p) (F0:=F0) (F:=Fm) (W:=W) (i:=d) (at':=64 * q) (f:=(2,dirB sl)) (bs:=slotB none) (m:=64) ho hF (hw.less (by show has (max (dirB sl).length (64 * q+64)) - has (dirB sl).length+(64+511) / 512+10<=13;rw [hdl];omega)) (.inr Reads.buf) hsl (Nat.le_refl _) (by decide) (by show 64 * q<=(dirB sl).length;omega) (by omega) (by show tot Fm p.ino+has (max (dirB sl).length (64 * q+64))<=p.dc+has (dirB sl).length;rw [hdl,hmx];omega)) (h:=?_)
 rintro _ _ ⟨rfl,rfl⟩
 refine .nil (.wa hnp ?_)
 refine .tk 6 rfl .assign ?_
 refine .fin ?_
 refine .next ?_
 refine .ret (?_)
 simp only [setS_wr (Nat.le_of_lt hlt)]
 refine .to (A':=IN s a c p F0 (updM Fm d (some (2,dirB (setS sl q none)))) (W+8) true) (fun h hh=>IN.more (by show W+(has (max (dirB sl).length (64 * q+64)) - has (dirB sl).length)+(64+511) / 512+5<=W+8;rw [hdl];omega) h hh) ?_
 exact .ret1 (h1:=.tmp (t:=6) rfl) ⟨_,⟨rfl,rfl⟩,Am.auto⟩
end Go.Proofs.YtdmjkjeoamiedaaGreatDoor
end
section
namespace Go.Proofs.YtdmjkjeoamiedaaGreatDoor
open Go Go.Sort
theorem flatK_list {α:Type} [Inhabited α] {enc:α->List Value} {m:Nat} (hk:∀ x,(enc x).length=m) (l:List α):(flatK enc m l.toArray).toList=l.flatMap enc:=by
 have hlen:∀ l:List α,(l.flatMap enc).length=l.length * m:=by
  intro l
  induction l with
  | nil=>simp
  | cons x l ih=>rw [List.flatMap_cons,List.length_append,hk,ih,List.length_cons,Nat.succ_mul];omega
 have hget:∀ (l:List α) (t:Nat),t < l.length * m->(l.flatMap enc)[t]?=(enc l[t / m]!)[t % m]?:=by
  intro l
  induction l with
  | nil=>intro t ht;simp at ht
  | cons x l ih =>
   intro t ht
   have hm:0 < m:=by
    rcases Nat.eq_zero_or_pos m with h | h
    ·subst h;simp at ht
    ·exact h
   rw [List.flatMap_cons]
   by_cases h:t < m
   ·rw [List.getElem?_append_left (by rw [hk];exact h),Nat.div_eq_of_lt h,Nat.mod_eq_of_lt h]
    rfl
   ·rw [List.getElem?_append_right (by rw [hk];omega),hk,ih _ (by rw [List.length_cons,Nat.succ_mul] at ht;omega)]
    have h1:t=(t - m)+m:=by omega
    have h2:t / m=(t - m) / m+1:=by
     conv=>lhs;rw [h1]
     exact Nat.add_div_right _ hm
    have h3:t % m=(t - m) % m:=by
     conv=>lhs;rw [h1]
     exact Nat.add_mod_right _ _
    rw [h2,h3]
    rfl
 apply List.ext_getElem?
 intro t
 by_cases ht:t < l.length * m
 ·rw [hget l t ht]
  have h1:=get_flatK enc m l.toArray t (by simpa using ht)
  have hs:t < (flatK enc m l.toArray).size:=by rw [size_flatK];simpa using ht
  rw [getElem!_pos (flatK enc m l.toArray) t hs] at h1
  rw [Array.getElem?_toList,Array.getElem?_eq_getElem hs,h1]
  have hm:0 < m:=by
   rcases Nat.eq_zero_or_pos m with h | h
   ·subst h;simp at ht
   ·exact h
  have h4:t % m < (enc l[t / m]!).length:=by rw [hk];exact Nat.mod_lt _ hm
  have e:l.toArray[t / m]! = l[t / m]!:=by simp
  rw [e,getElem!_pos (enc l[t / m]!) (t % m) h4,List.getElem?_eq_getElem h4]
 ·rw [List.getElem?_eq_none (l:=l.flatMap enc) (by rw [hlen];omega),List.getElem?_eq_none (by simp;omega)]
theorem flat_length {α:Type} {enc:α->List Value} {m:Nat} (hk:∀ x,(enc x).length=m) (l:List α):(l.flatMap enc).length=l.length * m:=by
 induction l with
 | nil=>simp
 | cons x l ih=>rw [List.flatMap_cons,List.length_append,hk,ih,List.length_cons,Nat.succ_mul];omega
section
variable {B:Base} {α:Type} [Inhabited α] {enc:α->List Value} {m:Nat}
theorem Sat.holdsK (hk:∀ x,(enc x).length=m) {w:World} {M:List HP} {el g cap:Nat} {l:List α} (hs:Sat B w (rowR el m (.slice (some ⟨g,0,none⟩) l.length cap) l.length (l.flatMap enc) :: M)) :
  HoldsK enc m w g 0 l.toArray/\g < w.heap.size:=by
 obtain ⟨h1,h2⟩:=Sat.ownsRow hs
 rcases h2 with ⟨h2,_⟩ | ⟨g',cap',cur,h2,_,h3,h4,h5,h6,h7⟩
 ·cases h2
 ·injection h2 with h21 _ h22
  injection h21 with h21
  injection h21 with h21
  subst h21
  refine ⟨fun j hj=>?_,(Array.getElem?_eq_some_iff.1 h3).1⟩
  rw [size_flatK] at hj
  have hj':j < l.length * m:=by simpa using hj
  have hs:j < (flatK enc m l.toArray).size:=by rw [size_flatK];exact hj
  refine ⟨?_,by simp [World.frozen?,h3]⟩
  rw [cell_of h3,Nat.zero_add]
  have e1:cur[j]?=(cur.toList.take (l.length * m))[j]?:=by rw [List.getElem?_take,if_pos hj'];simp
  rw [e1,h7,<-flatK_list hk,Array.getElem?_toList,getElem!_pos (flatK enc m l.toArray) j hs]
  exact Array.getElem?_eq_getElem hs
theorem Sat.sortedK (hk:∀ x,(enc x).length=m) {w:World} {M:List HP} {el g cap q:Nat} {os:Array Obj} {l l':List α} (hl:l'.length=l.length) (hs:Sat B w (rowR el m (.slice (some ⟨g,0,none⟩) l.length cap) l.length (l.flatMap enc) :: M)) :
  Sat B (sortWorldK enc m w g 0 q l'.toArray os) (rowR el m (.slice (some ⟨g,0,none⟩) l.length cap) l.length (l'.flatMap enc) :: M):=by
 obtain ⟨h1,h2⟩:=Sat.ownsRow hs
 rcases h2 with ⟨h2,_⟩ | ⟨g',cap',cur,h2,_,h3,h4,h5,h6,h7⟩
 ·cases h2
 ·injection h2 with h21 _ h22
  injection h21 with h21
  injection h21 with h21
  subst h21
  subst h22
  have hgs:=(Array.getElem?_eq_some_iff.1 h3).1
  have hheap:∀ k,k < w.heap.size->(sortWorldK enc m w g 0 q l'.toArray os).heap[k]?=if g=k then some (.cells (putCells id 0 (flatK enc m l'.toArray) cur) el (0,0)) else w.heap[k]?:=by
   intro k hkk
   show (w.heap.modify g (onCells (putCells id 0 (flatK enc m l'.toArray)))++os)[k]?=_
   rw [Array.getElem?_append_left (by simpa using hkk),Array.getElem?_modify]
   by_cases hgk:g=k
   ·subst hgk
    rw [if_pos rfl,if_pos rfl,h3]
    rfl
   ·rw [if_neg hgk,if_neg hgk]
  refine Sat.rowGrown hs ⟨by rw [flat_length hk,hl],.inr ⟨g,cap,putCells id 0 (flatK enc m l'.toArray) cur,rfl,Nat.zero_le _,?_,h4,h5,?_,?_⟩⟩ ⟨rfl,rfl,rfl,?_,?_⟩ (.inl rfl)
  ·rw [hheap g hgs,if_pos rfl]
  ·unfold putCells
   simp [h6]
  ·rw [<- flatK_list hk]
   have hfs:(flatK enc m l'.toArray).size=l.length * m:=by rw [size_flatK];simp [hl]
   apply List.ext_getElem?
   intro j
   rw [List.getElem?_take]
   by_cases hj:j < l.length * m
   ·rw [if_pos hj]
    have hcur:j < cur.size:=by
     rw [h6]
     exact Nat.lt_of_lt_of_le hj (Nat.mul_le_mul_right _ h4)
    unfold putCells
    rw [Array.getElem?_toList,Array.getElem?_toList,Array.getElem?_mapIdx,Array.getElem?_eq_getElem hcur,Option.map_some,if_pos ⟨Nat.zero_le _,by omega⟩,Nat.sub_zero,getElem!_pos (flatK enc m l'.toArray) j (by omega)]
    exact (Array.getElem?_eq_getElem _).symm
   ·rw [if_neg hj,List.getElem?_eq_none (by rw [Array.length_toList];omega)]
  ·show w.heap.size<=(w.heap.modify g _++os).size
   simp
  ·intro k hkk hne
   rw [hheap k hkk,if_neg]
   intro hgk
   subst hgk
   exact hne rfl
end
def cmpT (a b:Bytes):Int:=if a < b then -1 else if a=b then 0 else 1
theorem cmpT_lt (a b:Bytes):decide (cmpT a b < 0)=decide (a < b):=by
 unfold cmpT
 by_cases h:a < b
 ·simp [h]
 ·by_cases h2:a=b
  ·subst h2;simp [List.lt_irrefl]
  ·simp [h,h2]
theorem swoT {α:Type} (f:α->Bytes):SWO (ltOf fun x y:α=>cmpT (f x) (f y)) where
 irrefl x:=by
  show decide (cmpT (f x) (f x) < 0)=false
  rw [cmpT_lt];exact decide_eq_false (List.lt_irrefl _)
 trans x y z h1 h2:=by
  have h1:decide (cmpT (f x) (f y) < 0)=true:=h1
  have h2:decide (cmpT (f y) (f z) < 0)=true:=h2
  show decide (cmpT (f x) (f z) < 0)=true
  rw [cmpT_lt] at *
  exact decide_eq_true (List.lt_trans (of_decide_eq_true h1) (of_decide_eq_true h2))
 ntrans x y z h1 h2:=by
  have h1:decide (cmpT (f x) (f y) < 0)=false:=h1
  have h2:decide (cmpT (f y) (f z) < 0)=false:=h2
  show decide (cmpT (f x) (f z) < 0)=false
  rw [cmpT_lt] at *
  refine decide_eq_false fun h=>?_
  have a1:¬ f x < f y:=of_decide_eq_false h1
  have a2:¬ f y < f z:=of_decide_eq_false h2
  have b1:f y<=f x:=a1
  have b2:f z<=f y:=a2
  exact (List.le_trans b2 b1) h
section
variable {P:Program} {B:Base} {n:Fr} {Q Q':Exit->Act->World->Prop} {e:Env} {L:List HP} {ops:Array Oper} {l:List Oper}
variable {d:Nat} {ty:TypeId} {pos:String} {af:Array Edge} {x y z:Operand} {gd:Option (Nat×Bool)}
theorem Qt.slcArrLH {t el k b:Nat} {p q:Int} {kp kq:IntKind} (ht:arrOk P t el k 1=true) (hx:evo e x=some (.pointer (some ⟨b,0,none⟩)):=by rfl) (hy:evo e y=some (.int kp p):=by rfl) (hz:evo e z=some (.int kq q):=by rfl) (hp:0<=p/\p<=q:=by omega) (hq:q<=k:=by omega) (hk:p.toNat < k:=by omega) :
  Qt P B n e L ⟨some d,.slice t x (some y) (some z) none,ty,pos,af,gd⟩ (.slice (some ⟨b,p.toNat,none⟩) (q.toNat - p.toNat) (k - p.toNat)) :=
 fun a w ha hs=>by
  obtain ⟨hu,i,hi,hsz⟩:=arr_of ht
  have h0:0<=q:=by omega
  have h1:¬ k=p.toNat:=by omega
  have h3:p<=((q.toNat:Nat):Int):=by omega
  have h4:p<=max q 0:=by omega
  simp [execOp,ha.eval hx,ha.eval hy,ha.eval hz,Instr.sliceAt,run_underlying hu,Instr.sureAddr,Instr.sliceBounds,Instr.sliceBound,asIntOf,sizeOf,typeInfo,hi,hsz,add_plain',hp.1,hq,h0,h1,h4]
theorem WL.slcArrLH {t el k b:Nat} {p q:Int} {kp kq:IntKind} (h:WL P B n ops l Q ((d,.slice (some ⟨b,p.toNat,none⟩) (q.toNat - p.toNat) (k - p.toNat)) :: e) L) (ht:arrOk P t el k 1=true) (hx:evo e x=some (.pointer (some ⟨b,0,none⟩)):=by rfl) (hy:evo e y=some (.int kp p):=by rfl) (hz:evo e z=some (.int kq q):=by rfl) (hp:0<=p/\p<=q:=by omega) (hq:q<=k:=by omega) (hk:p.toNat < k:=by omega) (hd:Nat.ble (d+1) n.k=true:=by rfl) :
  WL P B n ops (⟨some d,.slice t x (some y) (some z) none,ty,pos,af,none⟩ :: l) Q e L:=WL.pure h hd (Qt.slcArrLH ht hx hy hz hp hq hk)
end
theorem left_cons {es:Array MapEntry} {seen:Array Nat} {m:MapEntry} (hp:(es.toList.map (·.born)).Pairwise (· < ·)) (hm:m∈left es seen):(left es seen).Perm (m :: left es (seen.push m.born)):=by
 have h1:left es (seen.push m.born)=(left es seen).filter fun x=>!(x.born==m.born):=by
  unfold left
  rw [List.filter_filter]
  apply List.filter_congr
  intro x _
  rw [Bool.eq_iff_iff]
  simp [Array.mem_push,and_comm]
 have hsub:((left es seen).map (·.born)).Pairwise (· < ·):=by
  unfold left
  exact (hp.sublist (List.Sublist.map _ List.filter_sublist))
 rw [h1]
 generalize left es seen=l at hm hsub
 clear h1
 induction l with
 | nil=>cases hm
 | cons x l ih =>
  simp only [List.map_cons,List.pairwise_cons] at hsub
  rcases List.mem_cons.1 hm with rfl | hm
  ·rw [List.filter_cons_of_neg (by simp)]
   have:l.filter (fun x=>!(x.born==m.born))=l:=by
    rw [List.filter_eq_self]
    intro y hy
    have:=hsub.1 y.born (List.mem_map_of_mem hy)
    simp;omega
   rw [this]
  ·have h2:=hsub.1 m.born (List.mem_map_of_mem hm)
   rw [List.filter_cons_of_pos (by simp;omega)]
   exact ((ih hm hsub.2).cons x).trans (List.Perm.swap m x _)
theorem left_nil (es:Array MapEntry):left es #[]=es.toList:=by
 unfold left
 rw [List.filter_eq_self]
 intro x _
 simp
theorem kput_new {κ α:Type} [DecidableEq κ] {l:List (κ×α)} {k:κ} {v:α} (h:kget l k=none):kput l k v=l++[(k,v)]:=by
 induction l with
 | nil=>rfl
 | cons p l ih =>
  obtain ⟨a,b⟩:=p
  simp only [kget] at h
  split at h
  ·cases h
  ·rename_i hne
   simp only [kput,if_neg hne,ih h,List.cons_append]
theorem MapIs.mapped {κ β:Type} [DecidableEq κ] {enc:κ->Value} {es:Array MapEntry} {c:Nat} {kvs:List (κ×Value)} (h:MapIs enc es c kvs) (f:Value->Value->β):(es.toList.map fun m=>f m.key m.val)=kvs.map fun p=>f (enc p.1) p.2:=by
 have hl:es.toList.length=kvs.length:=by simpa using h.length
 apply List.ext_getElem?
 intro i
 have h1:(es.toList.map (·.key))[i]?=(kvs.map fun p=>enc p.1)[i]?:=by rw [h.keys]
 have h2:(es.toList.map (·.val))[i]?=(kvs.map (·.2))[i]?:=by rw [h.vals]
 simp only [List.getElem?_map] at h1 h2 ⊢
 cases hi:es.toList[i]? with
 | none =>
  rw [hi] at h1
  cases hk:kvs[i]? with
  | none=>rfl
  | some p=>rw [hk] at h1;cases h1
 | some m =>
  rw [hi] at h1 h2
  cases hk:kvs[i]? with
  | none=>rw [hk] at h1;cases h1
  | some p =>
   rw [hk] at h1 h2
   simp only [Option.map_some,Option.some.injEq] at h1 h2 ⊢
   rw [h1,h2]
end Go.Proofs.YtdmjkjeoamiedaaGreatDoor
end
section
namespace Go.Proofs.YtdmjkjeoamiedaaGreatDoor
open Go
theorem z192:zeroOf Tryz.prog 192=some (#[.string ⟨#[]⟩,.int .i64 0]):=by kernel_rfl
theorem so188:sliceOk Tryz.prog 188 192 2 24=true:=by kernel_rfl
open Go.Shelf Go.Sort Go.RowKit
theorem kput_mem_same {κ α:Type} [DecidableEq κ] {l:List (κ×α)} {k k':κ} {v u:α} (h:(k,v)∈kput l k' u) (hk:k=k'):v=u ∨ (k,v)∈l:=by
 induction l with
 | nil =>
  simp only [kput,List.mem_singleton,Prod.mk.injEq] at h
  exact .inl h.2
 | cons p l ih =>
  obtain ⟨a,b⟩:=p
  simp only [kput] at h
  split at h
  ·rcases List.mem_cons.1 h with h | h
   ·injection h with _ h;exact .inl h
   ·exact .inr (List.mem_cons_of_mem _ h)
  ·rcases List.mem_cons.1 h with h | h
   ·exact .inr (h ▸ List.mem_cons_self ..)
   ·rcases ih h with h | h
    ·exact .inl h
    ·exact .inr (List.mem_cons_of_mem _ h)
theorem kput_mem_other {κ α:Type} [DecidableEq κ] {l:List (κ×α)} {k k':κ} {v u:α} (h:(k,v)∈kput l k' u) (hk:k≠k'):(k,v)∈l:=by
 induction l with
 | nil =>
  simp only [kput,List.mem_singleton,Prod.mk.injEq] at h
  exact absurd h.1 hk
 | cons p l ih =>
  obtain ⟨a,b⟩:=p
  simp only [kput] at h
  split at h
  ·rename_i he
   rcases List.mem_cons.1 h with h | h
   ·injection h with h _;exact absurd (h.trans he.symm) hk
   ·exact List.mem_cons_of_mem _ h
  ·rcases List.mem_cons.1 h with h | h
   ·exact h ▸ List.mem_cons_self ..
   ·exact List.mem_cons_of_mem _ (ih h)
def laysSF_ren:Go.Shelf.Ren:=⟨fun | 6=>187 | 14=>253 | 15=>254 | 20=>288 | 21=>289 | 22=>290 | 23=>291 | 24=>292 | 25=>293 | 26=>294 | 27=>295 | 28=>296 | 29=>297 | 46=>310 | 47=>311 | 48=>312 | 49=>313 | 50=>314 | 57=>334 | n=>n,fun | 0=>0 | 3=>3 | 4=>4 | 5=>5 | 9=>9 | 22=>188 | 24=>192 | 25=>276 | 39=>327 | 45=>375 | 46=>376 | 50=>268 | 53=>303 | 55=>134 | 66=>388 | 70=>291 | 76=>406 | 77=>63 | n=>n,fun n=>n⟩
theorem laysSF:SlLaysF0.n6 Tryz.prog laysSF_ren where
 mixed:=by kernel_rfl
 f6 := ⟨ "slices.SortFunc[[]bollard/dir.Entry,bollard/dir.Entry]", by decide, Tryz.func187.trans (congrArg some (by kernel_rfl))⟩
 f14 := ⟨ "slices.pdqsortCmpFunc[bollard/dir.Entry]", by decide, Tryz.func253.trans (congrArg some (by kernel_rfl))⟩
 f15:=Tryz.func254.trans (congrArg some (by kernel_rfl))
 f20 := ⟨ "slices.insertionSortCmpFunc[bollard/dir.Entry]", by decide, Tryz.func288.trans (congrArg some (by kernel_rfl))⟩
 f21 := ⟨ "slices.heapSortCmpFunc[bollard/dir.Entry]", by decide, Tryz.func289.trans (congrArg some (by kernel_rfl))⟩
 f22 := ⟨ "slices.breakPatternsCmpFunc[bollard/dir.Entry]", by decide, Tryz.func290.trans (congrArg some (by kernel_rfl))⟩
 f23 := ⟨ "slices.choosePivotCmpFunc[bollard/dir.Entry]", by decide, Tryz.func291.trans (congrArg some (by kernel_rfl))⟩
 f24 := ⟨ "slices.reverseRangeCmpFunc[bollard/dir.Entry]", by decide, Tryz.func292.trans (congrArg some (by kernel_rfl))⟩
 f25 := ⟨ "slices.partialInsertionSortCmpFunc[bollard/dir.Entry]", by decide, Tryz.func293.trans (congrArg some (by kernel_rfl))⟩
 f26 := ⟨ "slices.partitionEqualCmpFunc[bollard/dir.Entry]", by decide, Tryz.func294.trans (congrArg some (by kernel_rfl))⟩
 f27 := ⟨ "slices.partitionCmpFunc[bollard/dir.Entry]", by decide, Tryz.func295.trans (congrArg some (by kernel_rfl))⟩
 f28:=Tryz.func296.trans (congrArg some (by kernel_rfl))
 f29:=Tryz.func297.trans (congrArg some (by kernel_rfl))
 f46 := ⟨ "slices.siftDownCmpFunc[bollard/dir.Entry]", by decide, Tryz.func310.trans (congrArg some (by kernel_rfl))⟩
 f47:=Tryz.func311.trans (congrArg some (by kernel_rfl))
 f48:=Tryz.func312.trans (congrArg some (by kernel_rfl))
 f49 := ⟨ "slices.medianAdjacentCmpFunc[bollard/dir.Entry]", by decide, Tryz.func313.trans (congrArg some (by kernel_rfl))⟩
 f50 := ⟨ "slices.medianCmpFunc[bollard/dir.Entry]", by decide, Tryz.func314.trans (congrArg some (by kernel_rfl))⟩
 f57 := ⟨ "slices.order2CmpFunc[bollard/dir.Entry]", by decide, Tryz.func334.trans (congrArg some (by kernel_rfl))⟩
 t0:=Tryz.underlying0
 a0:=Tryz.isAgg0
 z0:=Tryz.sizeOf0
 v0:=Tryz.zeroValue0
 t3:=Tryz.underlying3
 a3:=Tryz.isAgg3
 z3:=Tryz.sizeOf3
 v3:=Tryz.zeroValue3
 t4:=Tryz.underlying4
 a4:=Tryz.isAgg4
 z4:=Tryz.sizeOf4
 v4:=Tryz.zeroValue4
 t5:=Tryz.underlying5
 a5:=Tryz.isAgg5
 z5:=Tryz.sizeOf5
 v5:=Tryz.zeroValue5
 t9:=Tryz.underlying9
 a9:=Tryz.isAgg9
 z9:=Tryz.sizeOf9
 v9:=Tryz.zeroValue9
 t22:=Tryz.underlying188
 a22:=Tryz.isAgg188
 z22:=Tryz.sizeOf188
 v22:=Tryz.zeroValue188
 t25:=Tryz.underlying276
 a25:=Tryz.isAgg276
 z25:=Tryz.sizeOf276
 v25:=Tryz.zeroValue276
 t39:=Tryz.underlying327
 a39:=Tryz.isAgg327
 z39:=Tryz.sizeOf327
 v39:=Tryz.zeroValue327
 t45:=Tryz.underlying375
 a45:=Tryz.isAgg375
 z45:=Tryz.sizeOf375
 v45:=Tryz.zeroValue375
 t46:=Tryz.underlying376
 a46:=Tryz.isAgg376
 z46:=Tryz.sizeOf376
 v46:=Tryz.zeroValue376
 t50:=Tryz.underlying268
 a50:=Tryz.isAgg268
 z50:=Tryz.sizeOf268
 v50:=Tryz.zeroValue268
 t53:=Tryz.underlying303
 a53:=Tryz.isAgg303
 z53:=Tryz.sizeOf303
 v53:=Tryz.zeroValue303
 t55:=Tryz.underlying134
 a55:=Tryz.isAgg134
 z55:=Tryz.sizeOf134
 v55:=Tryz.zeroValue134
 t66:=Tryz.underlying388
 a66:=Tryz.isAgg388
 z66:=Tryz.sizeOf388
 v66:=Tryz.zeroValue388
 t70:=Tryz.underlying291
 a70:=Tryz.isAgg291
 z70:=Tryz.sizeOf291
 v70:=Tryz.zeroValue291
 t76:=Tryz.underlying406
 a76:=Tryz.isAgg406
 z76:=Tryz.sizeOf406
 v76:=Tryz.zeroValue406
 t77:=Tryz.underlying63
 a77:=Tryz.isAgg63
 z77:=Tryz.sizeOf63
 v77:=Tryz.zeroValue63
abbrev Ent:=Bytes×Nat
def entL (x:Ent):List Value:=[sv x.1,nI x.2]
theorem readsRow {b el:Nat} {xs:List Value}:Reads (row b el xs) (some ⟨b,0,none⟩) xs:=by
 unfold row
 exact Reads.pt
theorem bdEnt (s:ByteArray) (i:Int):BuildOk Tryz.prog 192 [(0,.string s),(1,.int .i64 i)] #[.string s,.int .i64 i]:=fun w=>by kernel_rfl
theorem bsEnt (s:ByteArray) (i:Int):BuildSOk Tryz.prog 188 1 [(0,.agg #[.string s,.int .i64 i])] 192 #[.string s,.int .i64 i]:=fun w=>by kernel_rfl
theorem nanS (s:ByteArray) (w:World):Calls Tryz.prog 255 #[.string s] w fun e w'=>e=.returned (.bool false)/\w'=w:=by
 go_enter Tryz.func255,Tryz.ntmps255
 go_wp2
 go_ret
 exact ⟨by simp,rfl⟩
theorem cmpS (x y:Bytes) (w:World):Calls Tryz.prog 189 #[sv x,sv y] w fun e w'=>e=.returned (.int .i64 (cmpT x y))/\w'=w:=by
 show Calls Tryz.prog 189 #[.string (bstr x),.string (bstr y)] w _
 have hn:=fun s W=>nanS s W
 have h1:Op.bytesLess (bstr x).toList (bstr y).toList=decide (x < y):=by rw [bytesLess_eq,ByteArray.toList_eq,ByteArray.toList_eq];rfl
 have h2:((bstr x).toList==(bstr y).toList)=decide (x=y):=by rw [ByteArray.toList_eq,ByteArray.toList_eq];show (x==y)=_;by_cases h:x=y<;>simp [h]
 go_enter Tryz.func189,Tryz.ntmps189
 go_wp2_with (go_at_call 255;refine (hn _ _).mono ?_;rintro e w' ⟨rfl,rfl⟩)
 all_goals (go_ret;refine ⟨?_,rfl⟩;unfold cmpT;simp_all)
theorem entCmp (x y:Ent) (W:World):Calls Tryz.prog 188 #[.agg (entL x).toArray,.agg (entL y).toArray] W fun e w'=>e=.returned (.int .i64 (cmpT x.1 y.1))/\∃ q os',w'=grow (W.drewN q) os':=by
 have hcon:=fun W'=>cmpS x.1 y.1 W'
 show Calls Tryz.prog 188 #[.agg #[.string (bstr x.1),.int .i64 x.2],.agg #[.string (bstr y.1),.int .i64 y.2]] W _
 change ∀ W',Calls Tryz.prog 189 #[.string (bstr x.1),.string (bstr y.1)] W' _ at hcon
 generalize cmpT x.1 y.1=r at hcon ⊢
 go_enter Tryz.func188,Tryz.ntmps188
 go_wp2_with (go_at_call 189;refine (hcon _).mono ?_;rintro e w' ⟨rfl,rfl⟩)
 go_ret
 exact ⟨rfl,0,_,by rw [alloc_eq_grow,alloc_eq_grow,grow_grow];rfl⟩
theorem entL_length (x:Ent):(entL x).length=2:=rfl
theorem entL_one (x:Ent):∀ v∈entL x,v.oneCell'=true:=by
 intro v hv
 unfold entL at hv
 simp only [List.mem_cons,List.not_mem_nil,or_false] at hv
 rcases hv with rfl | rfl<;>rfl
theorem sortEnts {v:Value} {l:List Ent} (hl:l.length < 4611686018427387904):Spec Tryz.prog 187 #[v,.func (.func 188) #[] #[]] [rowR 192 2 v l.length (l.flatMap entL)] fun F u M=>∃ l':List Ent,(l'.Perm l/\l'.Pairwise fun a b=>¬ b.1 < a.1)/\M=rowR 192 2 v l.length (l'.flatMap entL) :: F:=by
 intro B F w hs
 have hsh:=Sat.ownsRow hs
 rcases hsh.2 with ⟨rfl,h0⟩ | ⟨g,cap,cur,rfl,_,_⟩
 ·obtain rfl:l=[]:=List.eq_nil_of_length_eq_zero h0
  have:=AnyF.slices_SortFunc_none (P:=Tryz.prog) laysSF none 0 (.func (.func 188) #[] #[]) w
  change Calls Tryz.prog 187 _ _ _ at this
  refine this.mono ?_
  rintro e w' ⟨rfl,rfl⟩
  exact ⟨_,_,rfl,⟨[],⟨List.Perm.refl _,List.Pairwise.nil⟩,rfl⟩,hs⟩
 ·obtain ⟨hH,hg⟩:=Sat.holdsK entL_length hs
  have hcon:=AnyQ.slices_SortFunc (P:=Tryz.prog) laysSF 2 Tryz.isAgg192 Tryz.sizeOf192 entL entL_length entL_one (fun x y:Ent=>cmpT x.1 y.1) (swoT fun x:Ent=>x.1) 188 #[] g 0 cap l.toArray w (enters_of Tryz.func188 (by kernel_rfl) rfl) (fun _ _ _ _ x y=>entCmp x y _) hH hg (by simpa using hl)
  change Calls Tryz.prog 187 #[.slice (some ⟨g,0,none⟩) l.length cap,_] _ _ at hcon
  refine hcon.mono ?_
  rintro e w' ⟨rfl,d',q,os,hp,hso,rfl⟩
  obtain ⟨hsz,_,hperm⟩:=hp
  have hsz':d'.size=l.length:=by simpa using hsz
  have hperm':d'.toList.Perm l:=by
   have e1:(d'.extract 0 l.toArray.size)=d':=by rw [<- hsz];simp
   have e2:(l.toArray.extract 0 l.toArray.size)=l.toArray:=by simp
   rw [e1,e2] at hperm
   exact hperm
  refine ⟨_,_,rfl,⟨d'.toList,⟨hperm',?_⟩,rfl⟩,?_⟩
  ·rw [List.pairwise_iff_getElem]
   intro i j hi hj hij
   have h1:=hso i j (Nat.zero_le _) hij (by simpa [hsz'] using hj)
   have hi':i < d'.size:=by simpa using hi
   have hj':j < d'.size:=by simpa using hj
   rw [getElem!_pos d' i hi',getElem!_pos d' j hj'] at h1
   have h2:decide (cmpT d'[j].1 d'[i].1 < 0)=false:=h1
   rw [cmpT_lt] at h2
   simpa using of_decide_eq_false h2
  ·have:=Sat.sortedK (B:=B) (q:=q) (os:=os) (l':=d'.toList) entL_length (by simpa using hsz') hs
   simpa using this
def entKV (k v:Value):Ent:=(match k with
 | .agg ks=>(((ks.toList.map fun x=>match x with
  | .int _ n=>UInt8.ofNat n.toNat
  | _=>0).drop 1).take (match ks.toList.head? with
  | some (.int _ n)=>n.toNat
  | _=>0))
 | _=>[],match v with
 | .agg xs=>(match xs.toList.drop 1 with
  | .int _ n :: _=>n.toNat
  | _=>0)
 | _=>0)
theorem entKV_eq {nm:Bytes} (h:nm.length<=50) (q i:Nat):entKV (encK (keyK nm)) (foundV (64 * q) i)=(nm,i):=by
 have h1:((bvs (keyB nm)).map fun x=>match x with
  | .int _ n=>UInt8.ofNat n.toNat
  | _=>0)=keyB nm:=by
  unfold bvs
  rw [List.map_map]
  apply List.ext_getElem?
  intro j
  rw [List.getElem?_map]
  cases (keyB nm)[j]? with
  | none=>rfl
  | some b=>simp [bv]
 have h3:(keyB nm).drop 1=(nm++List.replicate 50 0).take 50:=by unfold keyB;rw [List.take_succ_cons];rfl
 have h4:(UInt8.ofNat nm.length).toNat=nm.length:=by rw [UInt8.toNat_ofNat'];omega
 have h2:(bvs (keyB nm)).head?=some (.int .u8 ((nm.length:Nat):Int)):=by
  rw [List.head?_eq_getElem?]
  unfold bvs
  rw [List.getElem?_map,keyB_head]
  show some (bv (UInt8.ofNat nm.length))=_
  unfold bv
  rw [h4]
 unfold entKV encK keyK foundV
 simp only [h1,h2,h3]
 refine Prod.ext ?_ ?_
 ·show ((nm++List.replicate 50 0).take 50).take ((nm.length:Nat):Int).toNat=nm
  rw [List.take_take,Int.toNat_natCast,Nat.min_eq_left h,List.take_append_of_le_length (Nat.le_refl _),List.take_length]
 ·show ((i:Nat):Int).toNat=i
  exact Int.toNat_natCast i
def entsS (sl:List Slot):List Ent:=sl.filterMap id
theorem kvF_ents {sl:List Slot} (hd:DirOk sl):∀ m,m<=sl.length->((kvF sl m).map fun p=>entKV (encK p.1) p.2)=entsS (sl.take m)
 | 0,_=>rfl
 | m+1,hm=>by
  have ih:=kvF_ents hd m (by omega)
  have hlt:m < sl.length:=by omega
  have hs:sl[m]?=some sl[m]:=List.getElem?_eq_getElem hlt
  have ht:sl.take (m+1)=sl.take m++[sl[m]]:=List.take_succ_eq_append_getElem hlt
  have he:entsS (sl.take (m+1))=entsS (sl.take m)++entsS [sl[m]]:=by unfold entsS;rw [ht,List.filterMap_append]
  rw [kvF,hs,he]
  obtain ⟨x,hx⟩:∃ x,sl[m]=x:=⟨_,rfl⟩
  rw [hx] at hs ⊢
  cases x with
  | none=>show ((kvF sl m).map _)=_;rw [ih];simp [entsS]
  | some x =>
   obtain ⟨nm,i⟩:=x
   have hnm:=hd.nm _ _ _ hs
   have hno:kget (kvF sl m) (keyK nm)=none:=by
    have key:∀ k,k<=m->kget (kvF sl k) (keyK nm)=none:=by
     intro k
     induction k with
     | zero=>intro _;rfl
     | succ k ih2 =>
      intro hk
      have ih2:=ih2 (by omega)
      rw [kvF]
      cases hsk:sl[k]? with
      | none=>exact ih2
      | some y =>
       cases y with
       | none=>exact ih2
       | some y =>
        obtain ⟨n',i'⟩:=y
        show kget (kput (kvF sl k) (keyK n') (foundV (64 * k) i')) (keyK nm)=none
        rw [kget_put,if_neg,ih2]
        intro hkk
        have:=keyK_inj hnm.1.2 (hd.nm _ _ _ hsk).1.2 hkk
        subst this
        have:=hd.one _ _ _ _ _ hs hsk
        omega
    exact key m (Nat.le_refl _)
   show ((kput (kvF sl m) (keyK nm) (foundV (64 * m) i)).map _)=_
   rw [kput_new hno,List.map_append,ih]
   show _++[entKV (encK (keyK nm)) (foundV (64 * m) i)]=_
   rw [entKV_eq hnm.1.2]
   rfl
theorem kvF_key {sl:List Slot} (hd:DirOk sl) {k:K51} {v:Value}:∀ m,m<=sl.length->(k,v)∈kvF sl m->∃ nm q i,k=keyK nm/\v=foundV (64 * q) i/\nm.length<=50/\1<=nm.length/\i < 4294967296
 | 0,_,h=>by cases h
 | m+1,hm,h=>by
  rw [kvF] at h
  have hlt:m < sl.length:=by omega
  rw [List.getElem?_eq_getElem hlt] at h
  have hs:sl[m]?=some sl[m]:=List.getElem?_eq_getElem hlt
  obtain ⟨x,hx⟩:∃ x,sl[m]=x:=⟨_,rfl⟩
  rw [hx] at h hs
  cases x with
  | none=>exact kvF_key hd m (by omega) h
  | some x =>
   obtain ⟨nm,i⟩:=x
   have hnm:=hd.nm _ _ _ hs
   have h:(k,v)∈kput (kvF sl m) (keyK nm) (foundV (64 * m) i):=h
   by_cases hk:k=keyK nm
   ·have h2:=kput_mem_same h hk
    rcases h2 with h2 | h2
    ·exact ⟨nm,m,i,hk,h2,hnm.1.2,hnm.1.1,hnm.2⟩
    ·exact kvF_key hd m (by omega) h2
   ·exact kvF_key hd m (by omega) (kput_mem_other h hk)
theorem entsS_length {sl:List Slot}:(entsS sl).length<=sl.length:=List.length_filterMap_le ..
theorem dText {nm:Bytes} (hn:nm.length<=50):Spec Tryz.prog 186 #[arrV (keyB nm)] [] fun F v M=>v=sv nm/\M=F:=by
 refine Spec.intro Tryz.func186 rfl rfl fun B F=>?_
 simp only [Tryz.ntmps186,List.cons_append,List.nil_append,env0,Nat.reduceAdd]
 have hk:=keyB_length nm
 have h4:(UInt8.ofNat nm.length).toNat=nm.length:=by rw [UInt8.toNat_ofNat'];omega
 have hx0:(bvs (keyB nm))[0]?=some (.int .u8 (nm.length:Int)):=by
  unfold bvs
  rw [List.getElem?_map,keyB_head]
  show some (bv (UInt8.ofNat nm.length))=_
  unfold bv
  rw [h4]
 have h3:((bvs (keyB nm)).drop 1).take nm.length=bvs nm:=by
  rw [<- bvs_drop,<-bvs_take]
  have e:(keyB nm).drop 1=(nm++List.replicate 50 0).take 50:=by unfold keyB;rw [List.take_succ_cons];rfl
  rw [e,List.take_take,Nat.min_eq_left hn,List.take_append_of_le_length (Nat.le_refl _),List.take_length]
 refine .sr ?_
 refine .boxL (us:=bvs (keyB nm)) fun b1=>?_
 refine .assign (.x ?_)
 refine .idxA ?_ ar262
 refine .ldL (xs:=bvs (keyB nm)) (i:=0) (v:=.int .u8 (nm.length:Int)) ?_ sc5 hx0
 refine .addw ?_
 refine .cast (d:=5) (u:=.int .u8 ((1:Int)+(nm.length:Int))) rfl (congrArg (Value.int .u8) (IntWalk.u8_in _ (by omega))) ?_
 refine .slcArrLH ?_ ar262
 refine .cvtBS (xs:=nm) (R:=row b1 262 (bvs (keyB nm))) ?_ by33 st9 (by rw [<- h3];exact ((readsRow (b:=b1) (el:=262) (xs:=bvs (keyB nm))).drop 1).take nm.length) (by show nm.length=(1+(nm.length:Int)).toNat - (1:Int).toNat;omega)
 refine .assign (.z ?_)
 refine .ret (?_)
 exact .ret1 (h1:=.tmp (t:=2) rfl) ⟨_,⟨rfl,rfl⟩,Am.auto⟩
structure ListI (es:Array MapEntry) (seen:Array Nat) (acc:List MapEntry):Prop where
 perm:(acc++left es seen).Perm es.toList
theorem ListI.start (es:Array MapEntry):ListI es #[] []:=⟨by rw [left_nil];exact List.Perm.refl _⟩
theorem ListI.step {es:Array MapEntry} {seen:Array Nat} {acc:List MapEntry} (hp:(es.toList.map (·.born)).Pairwise (· < ·)) (h:ListI es seen acc) {m:MapEntry} (hm:m∈left es seen):ListI es (seen.push m.born) (acc++[m]):=by
 refine ⟨?_⟩
 rw [List.append_assoc]
 exact ((left_cons hp hm).symm.append_left acc).trans h.perm
theorem ListI.few {es:Array MapEntry} {seen:Array Nat} {acc:List MapEntry} (h:ListI es seen acc):acc.length<=es.size:=by
 have:=h.perm.length_eq
 rw [List.length_append,Array.length_toList] at this
 exact Nat.le_trans (Nat.le_add_right _ _) (Nat.le_of_eq this)
def entM (m:MapEntry):Ent:=entKV m.key m.val
theorem dList {s a c:Nat} {p:Pl} {F0 Fm:FM} {W d:Nat} {op:Bool} {sl:List Slot} (ho:PlOk p) (hF:Fm d=some (2,dirB sl)) (hd:DirOk sl) (hsz:sl.length<=1104) :
  Spec Tryz.prog 111 #[.pointer (some ⟨s,0,none⟩),nI d] [IN s a c p F0 Fm W op] fun G v M=>∃ u l,v=.tuple #[u,.int .i64 0]/\((l:List Ent).Perm (entsS sl)/\l.Pairwise fun x y=>¬ y.1 < x.1)/\M=rowR 192 2 u l.length (l.flatMap entL) :: IN s a c p F0 Fm W op :: G:=by
 refine Spec.intro Tryz.func111 rfl rfl fun B F=>?_
 simp only [Tryz.ntmps111,List.cons_append,List.nil_append,env0,Nat.reduceAdd]
 refine .sr (.assign (.assign (.x (.move (.move ?_)))))
 refine .call (hc:=Tryz.call185) (sp:=dNames (s:=s) (a:=a) (c:=c) (p:=p) (F0:=F0) (Fm:=Fm) (W:=W) (d:=d) (op:=op) ho hF hd hsz) (h:=?_)
 rintro _ _ ⟨mp,es,cl,rfl,hm,rfl⟩
 refine .move ?_
 refine .extract ?_
 refine .extract ?_
 refine .extract ?_
 refine .assign (.assign (.assign (.z (.seq (.sr (.move ?_))))))
 refine .nei ?_
 refine .z ?_
 refine .condF rfl rfl ?_
 refine .skip (.next (.sr (.assign ?_)))
 refine .emp (rowR.nil (e:=192) (size:=2) _) ?_
 refine .z (.seq (.sr (.move ?_)))
 have hkl:(kvF sl sl.length).length<=1104:=by
  have h1:=congrArg List.length (kvF_ents hd sl.length (Nat.le_refl _))
  rw [List.length_map,List.take_length] at h1
  have h2:=entsS_length (sl:=sl)
  omega
 have hes:es.size<=1104:=by have:=hm.length;omega
 refine .range mp255 fun it=>?_
 refine .z (.block ?_)
 refine .loopA (σ:=Array Nat×Value×List MapEntry) (fun y=>[(9,y.2.1),(23,.pointer (some ⟨it,0,none⟩))]) (fun y=>[pt it (.mapIter (some mp) cl y.1 cl),rowR 192 2 y.2.1 (y.2.2.map entM).length ((y.2.2.map entM).flatMap entL),pt mp (.map es cl),IN s a c p F0 Fm W op]++F) (fun y=>ListI es y.1 y.2.2) (fun y=>(left es y.1).length) (#[],.slice none 0 0,[]) (ListI.start es) ?_
 rintro ⟨seen,u,acc⟩ hi
 refine .sr ?_
 refine .next hm.lt (fun h0=>?_) (fun m hmm=>?_)
 ·have hpm:(acc.map entM).Perm (entsS sl):=by
   have h1:=hi.perm
   rw [h0,List.append_nil] at h1
   have h2:=h1.map entM
   rw [show es.toList.map entM=(kvF sl sl.length).map (fun p=>entKV (encK p.1) p.2) from hm.mapped entKV,kvF_ents hd sl.length (Nat.le_refl _),List.take_length] at h2
   exact h2
  have hfew:acc.length<=es.size:=hi.few
  refine .extract ?_
  refine .z (.seq ?_)
  refine .condF rfl rfl ?_
  refine .exit (.thenExit (.thenExit (.blockExit (?_))))
  refine .next (.sr (.move ?_))
  refine .call (hc:=Tryz.call187) (sp:=sortEnts (v:=u) (l:=acc.map entM) (by show (acc.map entM).length < _;rw [List.length_map];omega)) (h:=?_)
  rintro _ _ ⟨l',⟨hp',hs'⟩,rfl⟩
  refine .x (.move (.assign (.assign (.z ?_))))
  refine .ret (?_)
  rw [<- hp'.length_eq]
  exact .ret2 (h1:=.tmp (t:=4) rfl) (h2:=.tmp (t:=5) rfl) ⟨_,⟨u,l',rfl,⟨hp'.trans hpm,hs'⟩,rfl⟩,Am.auto⟩
 ·have hme:=(List.mem_filter.1 hmm).1
  obtain ⟨k,hk,hkv⟩:=hm.entry hme
  obtain ⟨nm,q,i,rfl,hv,hn1,hn2,hi3⟩:=kvF_key hd sl.length (Nat.le_refl _) ((kget_mem hm.nodup).1 hkv)
  have hem:entM m=(nm,i):=by unfold entM;rw [hk,hv];exact entKV_eq hn1 q i
  have hfew:=(hi.step hm.born hmm).few
  rw [List.length_append] at hfew
  simp only [List.length_cons,List.length_nil] at hfew
  have hal:(acc.map entM).length=acc.length:=List.length_map ..
  refine .extract ?_
  refine .z (.seq ?_)
  refine .condT rfl rfl ?_
  refine .skip (.next (.block (.sr ?_)))
  refine .entry hme hm.born ?_
  refine .extract ?_
  refine .cast (d:=27) (u:=arrV (keyB nm)) rfl hk ?_
  refine .extract ?_
  refine .cast (d:=28) (u:=.agg #[nI (64 * q),nI i]) rfl hv ?_
  refine .allocL (us:=bvs (List.replicate 51 0)) key0 rfl fun b10=>?_
  refine .alloc z259 fun b11=>?_
  refine .stLA (xs:=bvs (List.replicate 51 0)) (us:=bvs (keyB nm)) ?_ agg262 (bvsK_length nm) rfl (keyB_single nm)
  refine .stV ?_ agg259
  refine .z ?_
  refine .dr ([row b10 262 (bvs (keyB nm)),pt b11 (.cells #[nI (64 * q),nI i] 259 (0,0))]) [] 9 mixed .autoJ ?_
  refine .tk 0 rfl .move ?_
  refine .tk 1 rfl (Qt.ldW (xs:=bvs (keyB nm)) agg262 (bvsK_length nm)) ?_
  refine .tk 3 rfl (.fa fo259_1) ?_
  refine .tk 4 rfl (.ld sc3) ?_
  refine .on 2 rfl fun hnp=>?_
  refine .call (hc:=Tryz.call186) (sp:=dText hn1) (h:=?_)
  rintro _ _ ⟨rfl,rfl⟩
  refine .nil (.wa hnp ?_)
  refine .tk 5 rfl (.build (bdEnt _ _)) ?_
  refine .on 6 rfl fun hnp=>?_
  refine .buildS (fun b35=>?_) (bsEnt _ _)
  refine .nil (.wa hnp ?_)
  refine .on 7 rfl fun hnp=>?_
  refine .append (m:=1) so188 (by decide) (by repeat (first | exact .here | apply Rem.there | apply Repl.there | apply Mem.there)) Reads.pt (by repeat (first | exact .here | apply Rem.there | apply Repl.there | apply Mem.there)) rfl (by intro x hx;simp only [List.mem_cons,List.not_mem_nil,or_false] at hx;rcases hx with rfl | rfl<;>rfl) (by show (acc.map entM).length+1<=maxLen;unfold maxLen;omega) (by show ((acc.map entM).length+1) * _<=_;omega) ⟨_,z192,rfl⟩ (fun u2 hu2=>?_)
  refine .nil (.wa hnp ?_)
  refine .tk 8 rfl .assign ?_
  refine .fin ?_
  refine .blockNormal ?_
  refine .to (A:=rowR 192 2 u2 ((acc.map entM).length+1) ((acc.map entM).flatMap entL++entL (nm,i))) (A':=rowR 192 2 u2 ((acc++[m]).map entM).length (((acc++[m]).map entM).flatMap entL)) (fun h hh=>by
   rw [List.map_append,List.map_cons,List.map_nil,hem,List.length_append,List.flatMap_append]
   simp only [List.flatMap_cons,List.flatMap_nil,List.append_nil]
   exact hh) ?_
  exact .back (seen.push m.born,u2,acc++[m]) (hi.step hm.born hmm) (left_push hmm)
theorem dListE {s a c:Nat} {p:Pl} {F0 Fm:FM} {W:Nat} {op:Bool} {d e:Int} (ho:PlOk p) (he:FindErr [97] Fm d e) (he0:e≠0) :
  Spec Tryz.prog 111 #[.pointer (some ⟨s,0,none⟩),.int .i64 d] [IN s a c p F0 Fm W op] fun G v M=>v=.tuple #[.slice none 0 0,.int .i64 e]/\M=IN s a c p F0 Fm W op :: G:=by
 refine Spec.intro Tryz.func111 rfl rfl fun B F=>?_
 simp only [Tryz.ntmps111,List.cons_append,List.nil_append,env0,Nat.reduceAdd]
 refine .sr (.assign (.assign (.x (.move (.move ?_)))))
 refine .call (hc:=Tryz.call185) (sp:=dNamesErr (s:=s) (a:=a) (c:=c) (p:=p) (F0:=F0) (Fm:=Fm) (W:=W) (d:=d) (op:=op) (nm:=[97]) ho rfl he) (h:=?_)
 rintro _ _ ⟨rfl,rfl⟩
 refine .move ?_
 refine .extract ?_
 refine .extract ?_
 refine .extract ?_
 refine .assign (.assign (.assign (.z (.seq (.sr (.move ?_))))))
 refine .nei ?_
 refine .z ?_
 refine .condT rfl (congrArg Value.bool (by first|simp;done|simp;omega|omega)) ?_
 refine .sr (.move (.assign (.assign (.z ?_))))
 refine .ret (.thenRet (?_))
 exact .ret2 (h1:=.tmp (t:=4) rfl) (h2:=.tmp (t:=5) rfl) ⟨_,⟨rfl,rfl⟩,Am.auto⟩
end Go.Proofs.YtdmjkjeoamiedaaGreatDoor
end
section
namespace Go.Proofs.YtdmjkjeoamiedaaGreatDoor
open Go
inductive NodeT
 | file (b:Bytes)
 | dir (sl:List Slot)
def NodeT.f:NodeT->Nat×Bytes
 | .file b=>(1,b)
 | .dir sl=>(2,dirB sl)
abbrev FT:=Nat->Option NodeT
def fmT (T:FT):FM:=fun i=>(T i).map NodeT.f
theorem fmT_some {T:FT} {i:Nat} {x:NodeT} (h:T i=some x):fmT T i=some x.f:=by unfold fmT;rw [h];rfl
theorem fmT_none {T:FT} {i:Nat} (h:T i=none):fmT T i=none:=by unfold fmT;rw [h];rfl
def updT (T:FT) (i:Nat) (y:Option NodeT):FT:=fun j=>if j=i then y else T j
theorem updT_same (T:FT) (i:Nat) (y:Option NodeT):updT T i y i=y:=if_pos rfl
theorem updT_other (T:FT) {i j:Nat} (y:Option NodeT) (h:j≠i):updT T i y j=T j:=if_neg h
theorem fmT_upd (T:FT) (i:Nat) (y:Option NodeT):updM (fmT T) i (y.map NodeT.f)=fmT (updT T i y):=by
 funext j
 unfold updM fmT updT
 by_cases h:j=i
 ·rw [if_pos h,if_pos h]
 ·rw [if_neg h,if_neg h]
theorem fmT_updS (T:FT) (i:Nat) (x:NodeT):updM (fmT T) i (some x.f)=fmT (updT T i (some x)):=fmT_upd T i (some x)
theorem fmT_updN (T:FT) (i:Nat):updM (fmT T) i none=fmT (updT T i none):=fmT_upd T i none
def TOk (T:FT):Prop:=∀ d sl,T d=some (.dir sl)->DirOk sl/\sl.length<=1000
theorem TOk.upd {T:FT} (h:TOk T) (i:Nat) {y:Option NodeT} (hy:∀ sl,y=some (.dir sl)->DirOk sl/\sl.length<=1000):TOk (updT T i y):=by
 intro d sl hd
 by_cases hdi:d=i
 ·subst hdi;rw [updT_same] at hd;exact hy sl hd
 ·rw [updT_other _ _ hdi] at hd;exact h d sl hd
def lookS (nm:Bytes):List Slot->Option (Nat×Nat)
 | []=>none
 | some (n,i) :: r=>if n=nm then some (0,i) else (lookS nm r).map fun x=>(x.1+1,x.2)
 | none :: r=>(lookS nm r).map fun x=>(x.1+1,x.2)
theorem lookS_some {nm:Bytes}:∀ {sl:List Slot} {q i:Nat},lookS nm sl=some (q,i)->sl[q]?=some (some (nm,i))
 | some (n,j) :: r,q,i,h=>by
  unfold lookS at h
  split at h
  ·rename_i hn
   subst hn
   injection h with h
   injection h with h1 h2
   subst h1;subst h2
   rfl
  ·obtain ⟨x,hx,h⟩:=Option.map_eq_some_iff.1 h
   injection h with h1 h2
   subst h1;subst h2
   rw [List.getElem?_cons_succ]
   exact lookS_some hx
 | none :: r,q,i,h=>by
  unfold lookS at h
  obtain ⟨x,hx,h⟩:=Option.map_eq_some_iff.1 h
  injection h with h1 h2
  subst h1;subst h2
  rw [List.getElem?_cons_succ]
  exact lookS_some hx
theorem lookS_none {nm:Bytes}:∀ {sl:List Slot},lookS nm sl=none->∀ (q i:Nat),sl[q]?≠some (some (nm,i))
 | [],_,q,i=>by simp
 | some (n,j) :: r,h,q,i=>by
  unfold lookS at h
  split at h
  ·cases h
  ·rename_i hn
   cases q with
   | zero=>intro h2;injection h2 with h2;injection h2 with h2;injection h2 with h2 _;exact hn h2
   | succ q =>
    rw [List.getElem?_cons_succ]
    exact lookS_none (Option.map_eq_none_iff.1 h) q i
 | none :: r,h,q,i=>by
  unfold lookS at h
  cases q with
  | zero=>intro h2;injection h2 with h2;cases h2
  | succ q =>
   rw [List.getElem?_cons_succ]
   exact lookS_none (Option.map_eq_none_iff.1 h) q i
def findT (T:FT) (d:Nat) (nm:Bytes):Nat×Nat :=
 if nameOk nm then
  match T d with
  | none=>(0,4)
  | some (.file _)=>(0,6)
  | some (.dir sl)=>match lookS nm sl with
   | some (_,i)=>(i,0)
   | none=>(0,4)
 else (0,1)
theorem findT_ok {T:FT} {d i:Nat} {nm:Bytes} (h:findT T d nm=(i,0)):nameOk nm=true/\∃ sl q,T d=some (.dir sl)/\lookS nm sl=some (q,i):=by
 unfold findT at h
 split at h
 ·rename_i hn
  refine ⟨hn,?_⟩
  split at h
  ·cases h
  ·cases h
  ·rename_i sl hT
   split at h
   ·rename_i q j hl
    injection h with h _
    subst h
    exact ⟨sl,q,hT,hl⟩
   ·cases h
 ·cases h
theorem findT_err {T:FT} {d i e:Nat} {nm:Bytes} (h:findT T d nm=(i,e)) (he:e≠0):i=0/\(FindErr nm (fmT T) (d:Int) (e:Int) ∨ (nameOk nm=true/\e=4/\∃ sl,T d=some (.dir sl)/\lookS nm sl=none)):=by
 unfold findT at h
 split at h
 ·rename_i hn
  split at h
  ·rename_i hT
   injection h with h1 h2
   subst h1;subst h2
   exact ⟨rfl,.inl (.inr (.inl ⟨hn,by rw [fileAt_nat];exact fmT_none hT,rfl⟩))⟩
  ·rename_i b hT
   injection h with h1 h2
   subst h1;subst h2
   exact ⟨rfl,.inl (.inr (.inr ⟨hn,⟨1,b,by omega,by rw [Int.toNat_natCast];exact fmT_some hT,by decide⟩,rfl⟩))⟩
  ·rename_i sl hT
   split at h
   ·injection h with _ h
    exact absurd h.symm he
   ·rename_i hl
    injection h with h1 h2
    subst h1;subst h2
    exact ⟨rfl,.inr ⟨hn,rfl,sl,hT,hl⟩⟩
 ·rename_i hn
  injection h with h1 h2
  subst h1;subst h2
  exact ⟨rfl,.inl (.inl ⟨by simpa using hn,rfl⟩)⟩
def walkT (T:FT):Nat->List Bytes->Nat×Nat
 | d,[]=>(d,0)
 | d,nm :: r=>if (findT T d nm).2=0 then walkT T (findT T d nm).1 r else (0,(findT T d nm).2)
def splitSl:Bytes->List Bytes
 | []=>[[]]
 | x :: xs=>if x=47 then [] :: splitSl xs else match splitSl xs with
  | []=>[[x]]
  | y :: ys=>(x :: y) :: ys
theorem splitSl_ne (xs:Bytes):splitSl xs≠[]:=by
 cases xs with
 | nil=>simp [splitSl]
 | cons x xs =>
  unfold splitSl
  split
  ·simp
  ·split<;>simp
def partsT (path:Bytes):Option (List Bytes) :=
 match path with
 | []=>none
 | x :: rest=>if x=47 then (if rest=[] then some [] else if 8 < (splitSl rest).length then none else if (splitSl rest).all nameOk then some (splitSl rest) else none) else none
def parentT (T:FT) (path:Bytes):Nat×Bytes×Nat :=
 match partsT path with
 | none=>(0,[],1)
 | some l=>if l=[] then (0,[],1) else if (walkT T 0 l.dropLast).2=0 then (match T (walkT T 0 l.dropLast).1 with
  | some (.dir _)=>((walkT T 0 l.dropLast).1,l.getLastD [],0)
  | _=>(0,[],6)) else (0,[],(walkT T 0 l.dropLast).2)
def NodeT.size:NodeT->Nat
 | .file b=>b.length
 | .dir sl=>64 * sl.length
def NodeT.kind:NodeT->Nat
 | .file _=>1
 | .dir _=>2
theorem NodeT.f_kind (x:NodeT):x.f.1=x.kind:=by cases x<;>rfl
theorem NodeT.f_size (x:NodeT):x.f.2.length=x.size:=by
 cases x with
 | file b=>rfl
 | dir sl=>exact dirB_length sl
def leadsT (T:FT) (path:Bytes):Nat×Nat×Nat×Nat :=
 match partsT path with
 | none=>(0,0,0,1)
 | some l=>if (walkT T 0 l).2=0 then (match T (walkT T 0 l).1 with
  | some x=>((walkT T 0 l).1,x.kind,x.size,0)
  | none=>((walkT T 0 l).1,0,0,4)) else (0,0,0,(walkT T 0 l).2)
def fileT (T:FT) (path:Bytes):Nat×Nat×Nat×Nat :=
 if (leadsT T path).2.2.2=0/\(leadsT T path).2.1≠1 then (0,0,0,6) else leadsT T path
def SpecD (P:Program) (f:FuncId) (args:Array Value) (L:List HP) (R:List HP->Value->List HP->Prop):Prop :=
 ∀ B F w u,Sat B w (L++F)->CallsD P f args u w fun e u' w'=>u'=u/\Post B F R e w'
theorem env0_start {vas:List Value} {fn:Func} (hn:Nat.ble vas.length fn.ntmps=true):Ag ⟨fn.ntmps,[]⟩ (env0 0 vas) { tmps:=vas.toArray++Array.replicate (fn.ntmps - vas.toArray.size) undef,defers:=[] }:=by
 refine ⟨rfl,?_,?_⟩
 ·have:=Nat.le_of_ble_eq_true hn
  simp;omega
 ·intro t v hv
  have:=env0_look vas 0 t v hv
  simp only [Nat.sub_zero] at this
  have ht:t < vas.length:=(List.getElem?_eq_some_iff.1 this.2).1
  rw [Array.getD_eq_getD_getElem?,Array.getElem?_append_left (by simpa using ht)]
  simp [this.2]
theorem SpecD.intro {P:Program} {f:FuncId} {fn:Func} {c:Code} {vas:List Value} {pre:List HP} {R:List HP->Value->List HP->Prop}
  (hf:P.funcs[f]?=some fn) (hb:fn.body=some c) (hn:Nat.ble vas.length fn.ntmps=true)
  (h:∀ B F,WC P B ⟨fn.ntmps,[]⟩ c (bodyPost P fn (Post B F R)) (env0 0 vas) (pre++F)):SpecD P f vas.toArray pre R :=
 fun B F w u hs=>callsD_of_wp hf hb (h B F _ w (env0_start hn) hs)
theorem Spec.introD {P:Program} {f:FuncId} {fn:Func} {c:Code} {vas:List Value} {pre:List HP} {R:List HP->Value->List HP->Prop}
  (hf:P.funcs[f]?=some fn) (hb:fn.body=some c) (hn:Nat.ble vas.length fn.ntmps=true)
  (h:∀ B F,WC P B ⟨fn.ntmps,[]⟩ c (bodyPostD P fn (Post B F R)) (env0 0 vas) (pre++F)):Spec P f vas.toArray pre R :=
 fun B F w hs=>calls_of_wp_defers hf hb (h B F _ w (env0_start hn) hs)
theorem Spec.bound {P:Program} {f:FuncId} {us:Array Value} {L:List HP} {R:List HP->Value->List HP->Prop} (h:Spec P f us L R):Spec P f (us++([]:List Value).toArray++#[]) L R:=by simpa using h
theorem Spec.capt {P:Program} {f:FuncId} {cs:Array Value} {L:List HP} {R:List HP->Value->List HP->Prop} (h:Spec P f cs L R):Spec P f ((#[]:Array Value)++([]:List Value).toArray++cs) L R:=by simpa using h
section
variable {P:Program} {B:Base} {n:Fr} {Q Q':Exit->Act->World->Prop} {e:Env} {L:List HP} {ops:Array Oper} {l:List Oper}
variable {d:Nat} {ty:TypeId} {pos:String} {af:Array Edge} {x y z:Operand} {gd:Option (Nat×Bool)}
theorem WL.defer {f:FuncId} {xs:List Operand} {vs:List Value} {tys:Array TypeId} (h:WL P B ⟨n.k,{ target:=.fn (.func f) #[],args:=vs.toArray } :: n.ds⟩ ops l Q e L) (hx:evos e xs=some vs:=by rfl) :
  WL P B n ops (⟨none,.defer ⟨.value (.func f),xs.toArray,tys⟩,ty,pos,af,none⟩ :: l) Q e L:=by
 intro a w ha hs
 refine wpList_plain rfl fun K hK=>?_
 have hargs:xs.map a.eval=vs:=evos_eval ha hx
 have hrun:(execOp a.eval ⟨none,.defer ⟨.value (.func f),xs.toArray,tys⟩,ty,pos,af,none⟩).run P w=.ok (.defer { target:=.fn (.func f) #[],args:=vs.toArray }) w:=by
  simp [execOp,resolve,Deferred.ofValue,Act.eval,hargs]
 unfold Oper.wp
 rw [hrun]
 refine hK _ _ (h _ w ⟨?_,ha.size,ha.get⟩ hs)
 show _ :: a.defers=_
 rw [ha.defers]
variable {fn:Func} {F:List HP} {R:List HP->Value->List HP->Prop}
theorem WQ.retD1 {g t:Nat} {dargs:Array Value} {v:Value} {pre Lr:List HP} {R':List HP->Value->List HP->Prop} {xt:Exit} (hc:∀ args w,(callFunc g args).run P w=.ok (.enter g args) w) (sp:SpecD P g dargs pre R')
  (h:∀ v' M',R' Lr v' M'->∃ M,R F v M/\Am M' M) (hD:n.ds=[{ target:=.fn (.func g) #[],args:=dargs }]:=by rfl) (hres:fn.results=#[.tmp t]:=by rfl) (hl:look e t=some v:=by rfl)
  (tk:Tk L pre Lr:=by repeat (first | exact .nil | (apply Tk.cons;focus ((repeat (first | exact .here | apply Rem.there));done)))) (hx:(xt=.ret ∨ xt=.normal):=by first | exact .inl rfl | exact .inr rfl):WQ B n (bodyPostD P fn (Post B F R)) xt e L:=by
 intro a w ha hs
 have key:Leaves P fn a.tmps (Post B F R) a.defers .returning w:=by
  rw [ha.defers,hD]
  refine leaves_cons (by simp) (f:=g) (args:=dargs) (by simp [invoke,hc]) ?_
  refine (sp B Lr w .returning (hs.take tk)).mono ?_
  rintro e' u' w' ⟨rfl,v',M',rfl,hR',hs'⟩
  obtain ⟨M,hR,hM⟩:=h v' M' hR'
  refine ⟨v,?_,v,M,rfl,hR,hM.wk B w' hs'⟩
  simp [results_eq,hres,resM,ha.get _ _ hl]
 rcases hx with rfl | rfl<;>exact key
end
section
variable {P:Program} {B:Base} {n:Fr} {Q Q':Exit->Act->World->Prop} {e:Env} {L:List HP} {ops:Array Oper} {l:List Oper}
variable {d:Nat} {ty:TypeId} {pos:String} {af:Array Edge} {x y z:Operand} {gd:Option (Nat×Bool)}
theorem WQ.openR {A:HP} {M:List HP} {α:Type} {p:α->Prop} {Ls:α->List HP} {xt:Exit} (hA:Opens A p Ls) (h:∀ x,p x->WQ B n Q xt e (Ls x++M)) (r:Rem L A M:=by repeat (first | exact .here | apply Rem.there)):WQ B n Q xt e L:=by
 intro a w ha hs
 obtain ⟨x,hp,hs⟩:=(hs.front r).opens hA
 exact h x hp a w ha hs
theorem Qt.negw {k:IntKind} {p:Int} {t:TypeId} (hx:evo e x=some (.int k p):=by rfl) :
  Qt P B n e L ⟨some d,.unOp .neg t x,ty,pos,af,gd⟩ (.int k (k.wrap (0 - p))) :=
 fun a w ha hs=>by simp [execOp,ha.eval hx,Op.unary,Op.intArith]
theorem WL.negw {k:IntKind} {p:Int} {t:TypeId} (h:WL P B n ops l Q ((d,.int k (k.wrap (0 - p))) :: e) L) (hx:evo e x=some (.int k p):=by rfl) (hd:Nat.ble (d+1) n.k=true:=by rfl) :
  WL P B n ops (⟨some d,.unOp .neg t x,ty,pos,af,none⟩ :: l) Q e L:=WL.pure h hd (Qt.negw (hx:=hx))
def icomp (k:IntKind) (p:Int):Int:=bxor k (if k.signed then -1 else k.max) p
theorem Qt.comp {k:IntKind} {p:Int} {t:TypeId} (hx:evo e x=some (.int k p):=by rfl) :
  Qt P B n e L ⟨some d,.unOp .xor t x,ty,pos,af,gd⟩ (.int k (icomp k p)) :=
 fun a w ha hs=>by
  cases h:k.signed<;>simp [execOp,ha.eval hx,Op.unary,Op.intBits,icomp,bxor,h]
theorem WL.comp {k:IntKind} {p:Int} {t:TypeId} (h:WL P B n ops l Q ((d,.int k (icomp k p)) :: e) L) (hx:evo e x=some (.int k p):=by rfl) (hd:Nat.ble (d+1) n.k=true:=by rfl) :
  WL P B n ops (⟨some d,.unOp .xor t x,ty,pos,af,none⟩ :: l) Q e L:=WL.pure h hd (Qt.comp (hx:=hx))
theorem WL.subT {t:Nat} {p:Int} (xs:Bytes) (h:WL P B n ops l Q ((d,sv (xs.drop p.toNat)) :: e) L) (ht:strOk P t=true) (hx:evo e x=some (sv xs):=by rfl) (hy:evo e y=some (.int .i64 p):=by rfl) (hp:0<=p/\p<=xs.length:=by omega) (hd:Nat.ble (d+1) n.k=true:=by rfl) :
  WL P B n ops (⟨some d,.slice t x (some y) none none,ty,pos,af,none⟩ :: l) Q e L:=WL.pure h hd (Qt.subT xs ht hx hy hp)
theorem Qt.subTH {t:Nat} {p:Int} (xs:Bytes) (ht:strOk P t=true) (hx:evo e x=some (sv xs):=by rfl) (hy:evo e y=some (.int .i64 p):=by rfl) (hp:0<=p/\p<=xs.length:=by omega) :
  Qt P B n e L ⟨some d,.slice t x none (some y) none,ty,pos,af,gd⟩ (sv (xs.take p.toNat)) :=
 fun a w ha hs=>by
  have h1:0<=p/\p<=((bstr xs).size:Int):=by rw [bstr_size];exact hp
  have h2:(bstr xs).extract 0 p.toNat=bstr (xs.take p.toNat):=by
   apply ByteArray.ext
   simp [bstr]
  have:(Instr.sliceAt t (sv xs) none (some (.int .i64 p)) none).run P w=.ok (sv (xs.take p.toNat)) w:=by
   rw [sv_bstr,sv_bstr,<-h2]
   simp [Instr.sliceAt,Instr.slice,run_underlying (str_of ht),Instr.sliceBounds,Instr.sliceBound,asIntOf,h1]
  simp [execOp,ha.eval hx,ha.eval hy,this]
theorem WL.subTH {t:Nat} {p:Int} (xs:Bytes) (h:WL P B n ops l Q ((d,sv (xs.take p.toNat)) :: e) L) (ht:strOk P t=true) (hx:evo e x=some (sv xs):=by rfl) (hy:evo e y=some (.int .i64 p):=by rfl) (hp:0<=p/\p<=xs.length:=by omega) (hd:Nat.ble (d+1) n.k=true:=by rfl) :
  WL P B n ops (⟨some d,.slice t x none (some y) none,ty,pos,af,none⟩ :: l) Q e L:=WL.pure h hd (Qt.subTH xs ht hx hy hp)
end
theorem ba_beq (a c:Bytes):((⟨a.toArray⟩:ByteArray)==⟨c.toArray⟩)=decide (a=c):=by
 show (a.toArray==c.toArray)=_
 by_cases h:a=c<;>simp [h]
abbrev XV:=Int ⊕ Bytes
def XV.v:XV->Value
 | .inl n=>.int .i64 n
 | .inr s=>sv s
def XV.k:XV->Bool
 | .inl _=>true
 | .inr _=>false
def xvs (xs:List XV):List Value:=xs.map XV.v
def mixT (P:Program) (t:Nat) (b:Bool):Bool:=if b then intAny P t else strOk P t
def fieldsMix (P:Program):List Field->List Bool->Nat->Bool
 | [],[],_=>true
 | f :: fs, b :: bs, i => (f.name != "_") && Nat.beq f.offset i && mixT P f.type b && fieldsMix P fs bs (i + 1)
 | _,_,_=>false
def mixOk (P:Program) (t:Nat) (pat:List Bool):Bool :=
 match P.underlying t with
 | some (.struct fs)=>fieldsMix P fs.toList pat 0 && !P.stoodInHeld t && !P.eqGuardType P.depth t
 | _=>false
theorem mix_of {P:Program} {t:Nat} {pat:List Bool} (h:mixOk P t pat=true):P.underlying t=some (.struct (P.fieldsOf t))/\fieldsMix P (P.fieldsOf t).toList pat 0=true/\P.stoodInHeld t=false/\P.eqGuardType P.depth t=false:=by
 unfold mixOk at h
 split at h
 ·rename_i fs hu
  simp only [Bool.and_eq_true] at h
  obtain ⟨⟨h2,h3⟩,h4⟩:=h
  have:P.fieldsOf t=fs:=by simp [Program.fieldsOf,hu]
  rw [this]
  exact ⟨hu,h2,by simpa using h3,by simpa using h4⟩
 ·cases h
section
variable {P:Program}
theorem run_part_mix {t:Nat} {b:Bool} (h:mixT P t b=true) {cs:Array Value} {i:Nat} {v:Value} (hv:cs[i]?=some v) (w:World):(part t cs i).run P w=.ok v w:=by
 cases b
 ·have hk:=str_of (P:=P) (t:=t) h
  simp [part,isAgg,run_underlying hk,hv]
 ·exact run_part_int h hv w
theorem run_equal_mix {t:Nat} {b:Bool} (h:mixT P t b=true) (d:Nat) {x y:XV} (hx:x.k=b) (hy:y.k=b) (w:World):(Op.equalIn (d+1) t x.v y.v).run P w=.ok (decide (x=y)) w:=by
 cases x with
 | inl a =>
  cases y with
  | inl c =>
   subst hx
   obtain ⟨k,hk⟩:=int_any h
   have:=run_equalIn_int (P:=P) w d t .i64 k a c hk
   show (Op.equalIn (d+1) t (.int .i64 a) (.int .i64 c)).run P w=_
   rw [this]
   congr 1
   by_cases hac:a=c<;>simp [hac]
  | inr c=>subst hx;cases hy
 | inr a =>
  cases y with
  | inl c=>subst hx;cases hy
  | inr c =>
   subst hx
   have hk:=str_of (P:=P) (t:=t) h
   have:(Op.equalIn (d+1) t (sv a) (sv c)).run P w=.ok (decide (a=c)) w:=by
    rw [<- ba_beq]
    simp [Op.equalIn,run_underlying hk,sv]
   show (Op.equalIn (d+1) t (sv a) (sv c)).run P w=_
   rw [this]
   congr 1
   by_cases hac:a=c<;>simp [hac]
theorem xvs_at {xs:List XV} {i:Nat} (h:i < xs.length):(xvs xs).toArray[i]?=some xs[i].v:=by simp [xvs,h]
theorem run_eqFieldsMix (d:Nat) (xs ys:List XV):∀ (fs:List Field) (pat:List Bool) (i:Nat),fieldsMix P fs pat i=true->(xs.drop i).map XV.k=pat->(ys.drop i).map XV.k=pat->∀ w,
  (Op.eqFields (d+1) (xvs xs).toArray (xvs ys).toArray fs).run P w=.ok (decide (xs.drop i=ys.drop i)) w
 | [],[],i,_,hx,hy,w=>by
  have h1:xs.drop i=[]:=by simpa using hx
  have h2:ys.drop i=[]:=by simpa using hy
  simp [Op.eqFields,h1,h2]
 | f :: fs,b :: bs,i,hf,hx,hy,w=>by
  simp only [fieldsMix,Bool.and_eq_true] at hf
  obtain ⟨⟨⟨h1,h2⟩,h3⟩,h4⟩:=hf
  have h2:=Nat.eq_of_beq_eq_true h2
  have hn : f.name ≠ "_" := by simpa using h1
  have hxl:i < xs.length:=by
   have:=congrArg List.length hx
   simp at this;omega
  have hyl:i < ys.length:=by
   have:=congrArg List.length hy
   simp at this;omega
  rw [List.drop_eq_getElem_cons hxl,List.map_cons,List.cons.injEq] at hx
  rw [List.drop_eq_getElem_cons hyl,List.map_cons,List.cons.injEq] at hy
  have px:=run_part_mix (P:=P) h3 (xvs_at hxl) w
  have py:=run_part_mix (P:=P) h3 (xvs_at hyl) w
  have pe:=run_equal_mix (P:=P) h3 d hx.1 hy.1 w
  have ih:=run_eqFieldsMix d xs ys fs bs (i+1) h4 hx.2 hy.2 w
  have hdec:decide (xs.drop i=ys.drop i)=(decide (xs[i]=ys[i]) && decide (xs.drop (i+1)=ys.drop (i+1))):=by
   rw [Bool.eq_iff_iff]
   rw [List.drop_eq_getElem_cons hxl,List.drop_eq_getElem_cons hyl,decide_eq_true_iff,Bool.and_eq_true,decide_eq_true_iff,decide_eq_true_iff,List.cons.injEq]
  rw [hdec]
  simp only [Op.eqFields,hn,ne_eq,not_false_eq_true,if_true,h2,Sem.run_bind,px,py,pe,Result.andThen_ok]
  by_cases hxy:xs[i]=ys[i]
  ·simp [hxy,ih]
  ·simp [hxy]
theorem run_equalMix {t:Nat} {pat:List Bool} (h:mixOk P t pat=true) (d:Nat) {xs ys:List XV} (hx:xs.map XV.k=pat) (hy:ys.map XV.k=pat) (w:World) :
  (Op.equalIn (d+2) t (.agg (xvs xs).toArray) (.agg (xvs ys).toArray)).run P w=.ok (decide (xs=ys)) w:=by
 obtain ⟨h1,h3,h4,h5⟩:=mix_of h
 have:=run_eqFieldsMix (P:=P) d xs ys _ pat 0 h3 (by simpa using hx) (by simpa using hy) w
 rw [run_equalIn_struct w (d+1) t _ _ h1 h4,this]
 simp
theorem run_checkMixF (emp:Bool) (m:Nat) (xs:List XV) (w:World):∀ (fs:List Field) (pat:List Bool) (i:Nat),fieldsMix P fs pat i=true->(xs.drop i).map XV.k=pat ->
  (forIn (m:=Sem) fs PUnit.unit (fun f _=>do
   if f.name ≠ "_" then Instr.checkKey emp (m + 1) f.type (<- part f.type (xvs xs).toArray f.offset)
   pure (ForInStep.yield PUnit.unit))).run P w=.ok PUnit.unit w
 | [],_,i,_,_=>by simp
 | f :: fs,b :: bs,i,hf,hx=>by
  simp only [fieldsMix,Bool.and_eq_true] at hf
  obtain ⟨⟨⟨h1,h2⟩,h3⟩,h4⟩:=hf
  have h2:=Nat.eq_of_beq_eq_true h2
  have hn : f.name ≠ "_" := by simpa using h1
  have hxl:i < xs.length:=by
   have:=congrArg List.length hx
   simp at this;omega
  rw [List.drop_eq_getElem_cons hxl,List.map_cons,List.cons.injEq] at hx
  have px:=run_part_mix (P:=P) h3 (xvs_at hxl) w
  have pc:(Instr.checkKey emp (m+1) f.type xs[i].v).run P w=.ok () w:=by
   obtain ⟨hx1,_⟩:=hx
   cases hv:xs[i] with
   | inl a =>
    rw [hv] at hx1
    subst hx1
    obtain ⟨k,hk⟩:=int_any h3
    exact checkKey_int hk emp m .i64 a w
   | inr a =>
    rw [hv] at hx1
    subst hx1
    have hk:=str_of (P:=P) (t:=f.type) h3
    simp [Instr.checkKey,run_underlying hk,XV.v]
  have ih:=run_checkMixF emp m xs w fs bs (i+1) h4 hx.2
  simp only [List.forIn_cons,hn,ne_eq,not_false_eq_true,if_true,h2,Sem.run_bind,px,Result.andThen_ok,pc,Sem.run_pure]
  exact ih
theorem run_checkMix {t:Nat} {pat:List Bool} (h:mixOk P t pat=true) (emp:Bool) (m:Nat) {xs:List XV} (hx:xs.map XV.k=pat) (w:World):(Instr.checkKey emp (m+2) t (.agg (xvs xs).toArray)).run P w=.ok () w:=by
 obtain ⟨h1,h3,h4,h5⟩:=mix_of h
 have:=run_checkMixF (P:=P) emp m xs w (P.fieldsOf t).toList pat 0 h3 (by simpa using hx)
 rw [Instr.checkKey]
 simp only [Sem.run_bind,run_underlying h1,Result.andThen_ok]
 rw [<- Array.forIn_toList]
 rw [show (forIn (P.fieldsOf t).toList PUnit.unit (fun f (_ : PUnit) => (if f.name ≠ "_" then do
   Instr.checkKey emp (m+1) f.type (<- part f.type (xvs xs).toArray f.offset)
   Pure.pure (ForInStep.yield PUnit.unit) else Pure.pure (ForInStep.yield PUnit.unit):Sem (ForInStep PUnit)))).run P w=.ok PUnit.unit w from this]
 rfl
theorem sameBits_mix (n:Nat) (xs:List XV):Instr.sameBits (n+1) (.agg (xvs xs).toArray) (.agg (xvs xs).toArray)=true:=by
 simp only [Instr.sameBits,beq_self_eq_true,Bool.true_and,List.all_eq_true]
 intro p hp
 have:∀ (l:List Value),p∈l.zip l->p.1=p.2/\p.1∈l:=by
  intro l
  induction l with
  | nil=>intro h;cases h
  | cons a l ih =>
   intro h
   simp only [List.zip_cons_cons,List.mem_cons] at h
   rcases h with rfl | h
   ·simp
   ·have:=ih h
    exact ⟨this.1,List.mem_cons_of_mem _ this.2⟩
 obtain ⟨h1,h2⟩:=this _ hp
 simp only [List.toList_toArray,xvs,List.mem_map] at h2
 obtain ⟨a,_,ha⟩:=h2
 obtain ⟨x,y⟩:=p
 simp only at h1 ha ⊢
 subst h1
 rw [<- ha]
 cases a with
 | inl a=>exact sameBits_int _ _ _
 | inr a=>cases n<;>simp [XV.v,sv,Instr.sameBits,ba_beq]
theorem mixKeys {κ:Type} [DecidableEq κ] (f:κ->List XV) {kt:Nat} (pat:List Bool) (h:mixOk P kt pat=true) (hf:∀ k,(f k).map XV.k=pat) (inj:∀ a b,f a=f b->a=b):KeyLaw P kt (fun k=>Value.agg (xvs (f k)).toArray) where
 check emp k w:=run_checkMix h emp 9998 (hf k) w
 find k ks es w hk:=by
  obtain ⟨h1,h3,h4,h5⟩:=mix_of h
  have hask:∀ (ks:List κ) (es:List MapEntry) (i:Nat) (w:World),es.map (·.key)=ks.map (fun k=>Value.agg (xvs (f k)).toArray) ->
    (Instr.findAsking kt (Value.agg (xvs (f k)).toArray) es i).run P w=.ok (findPure k ks es i) w:=by
   intro ks
   induction ks with
   | nil =>
    intro es i w h
    have:es=[]:=by simpa using h
    subst this
    simp [Instr.findAsking,findPure]
   | cons k' ks ih =>
    intro es i w h'
    cases es with
    | nil=>simp at h'
    | cons e es =>
     simp only [List.map_cons,List.cons.injEq] at h'
     have he:(Op.equal kt (Value.agg (xvs (f k)).toArray) e.key).run P w=.ok (decide (f k=f k')) w:=by
      rw [h'.1]
      exact run_equalMix h 9998 (hf k) (hf k') w
     simp only [Instr.findAsking,Sem.run_bind,he,Result.andThen_ok,findPure]
     by_cases hkk:k=k'
     ·subst hkk;simp
     ·have:¬ f k=f k':=fun e=>hkk (inj _ _ e)
      simp only [this,decide_false,Bool.false_eq_true,if_false,hkk]
      exact ih es (i+1) w h'.2
  cases es with
  | nil =>
   cases ks with
   | nil=>simp [Instr.findKey,run_underlying h1,Instr.findNow,findPure]
   | cons k' ks=>simp at hk
  | cons e es =>
   have hnow:Instr.findNow (.struct (P.fieldsOf kt)) (Value.agg (xvs (f k)).toArray) (e :: es) 0=none:=by
    simp [Instr.findNow,Instr.sameNow]
   simp only [Instr.findKey,Sem.run_bind,run_underlying h1,Result.andThen_ok,hnow]
   exact hask ks (e :: es) 0 w hk
 stays k:=sameBits_mix _ _
end
theorem so92:sliceOk Tryz.prog 92 9 1 16=true:=by kernel_rfl
theorem sc9:scalarOk Tryz.prog 9=true:=by kernel_rfl
theorem z9:zeroOf Tryz.prog 9=some (#[.string ⟨#[]⟩]):=by kernel_rfl
theorem sl92:Tryz.prog.underlying 92=some (.slice 9):=by kernel_rfl
theorem countX (xs:Bytes) (c:Int) (w:World):(callFunc 328 #[sv xs,.int .u8 c]).run Tryz.prog w=.ok (.value (.int .i64 (Lib.countByte xs c.toNat.toUInt8))) w:=by
 rw [run_callFunc_extern Tryz.func328 (by kernel_rfl) (by kernel_rfl) (by kernel_rfl) (e:=Extern.BytealgCount.count) (by kernel_rfl),sv_bstr,Lib.run_countString]
 rfl
theorem splitSl_len (xs:Bytes):(splitSl xs).length=Lib.countByte xs 47+1:=by
 unfold Lib.countByte
 induction xs with
 | nil=>rfl
 | cons x xs ih =>
  unfold splitSl
  by_cases h:x=47
  ·subst h
   rw [if_pos rfl,List.length_cons,ih,List.count_cons_self]
  ·rw [if_neg h,List.count_cons_of_ne (by simpa using h)]
   cases hs:splitSl xs with
   | nil=>exact absurd hs (splitSl_ne xs)
   | cons y ys=>rw [hs] at ih;simpa using ih
theorem splitSl_none {xs:Bytes} (h:∀ k:Nat,xs[k]?≠some 47):splitSl xs=[xs]:=by
 induction xs with
 | nil=>rfl
 | cons x xs ih =>
  have hx:x≠47:=fun hx=>h 0 (by rw [hx];rfl)
  have ih:=ih (fun k=>by have:=h (k+1);simpa using this)
  unfold splitSl
  rw [if_neg hx,ih]
theorem splitSl_step {xs:Bytes}:∀ {m:Nat},xs[m]?=some 47->(∀ k:Nat,k < m->xs[k]?≠some 47)->splitSl xs=xs.take m :: splitSl (xs.drop (m+1)):=by
 induction xs with
 | nil=>intro m h;simp at h
 | cons x xs ih =>
  intro m h hb
  cases m with
  | zero =>
   have hx:x=47:=by simpa using h
   rw [splitSl,if_pos hx];rfl
  | succ m =>
   have hx:x≠47:=fun hx=>hb 0 (by omega) (by rw [hx];rfl)
   have ih:=ih (m:=m) (by simpa using h) (fun k hk=>by have:=hb (k+1) (by omega);simpa using this)
   rw [splitSl,if_neg hx,ih]
   rfl
theorem hasPre {xs ps:Bytes}:Spec Tryz.prog 248 #[sv xs,sv ps] [] fun F v M=>v=.bool (decide (xs.take ps.length=ps))/\M=F:=by
 refine Spec.intro Tryz.func248 rfl rfl fun B F=>?_
 simp only [Tryz.ntmps248,List.cons_append,List.nil_append,env0,Nat.reduceAdd]
 by_cases hl:ps.length<=xs.length
 ·refine .sr (.assign (.x (.move ?_)))
  refine .lenT _ ?_ st9
  refine .move ?_
  refine .lenT _ ?_ st9
  refine .geq ?_
  refine .cast (d:=9) (u:=.bool true) rfl (congrArg Value.bool (by simp only [ge_iff_le,decide_eq_true_eq];omega)) ?_
  refine .move ?_
  refine .gT ?_
  refine .move ?_
  refine .gT ?_
  refine .move ?_
  refine .gT ?_
  refine .lenT _ ?_ st9
  refine .gT ?_
  refine .subTH xs ?_ st9
  refine .gT ?_
  refine .move ?_
  refine .gT ?_
  refine .eqS (xs.take ps.length) ps ?_
  refine .pickT ?_
  refine .assign (.z ?_)
  refine .ret (?_)
  exact .ret1 (h1:=.tmp (t:=4) rfl) ⟨_,⟨rfl,rfl⟩,Am.auto⟩
 ·refine .sr (.assign (.x (.move ?_)))
  refine .lenT _ ?_ st9
  refine .move ?_
  refine .lenT _ ?_ st9
  refine .geq ?_
  refine .cast (d:=9) (u:=.bool false) rfl (congrArg Value.bool (by simp only [ge_iff_le,decide_eq_false_iff_not];omega)) ?_
  refine .move ?_
  refine .gF ?_
  refine .gF ?_
  refine .gF ?_
  refine .gF ?_
  refine .gF ?_
  refine .gF ?_
  refine .pickF ?_
  refine .assign (.z ?_)
  refine .ret (?_)
  have hne:¬ xs.take ps.length=ps:=fun h=>by have:=congrArg List.length h;rw [List.length_take] at this;omega
  exact .ret1 (h1:=.tmp (t:=4) rfl) ⟨_,⟨congrArg Value.bool (decide_eq_false hne).symm,rfl⟩,Am.auto⟩
theorem cutPreL {xs ps:Bytes}:Spec Tryz.prog 274 #[sv xs,sv ps] [] fun F v M=>v=.tuple #[sv (if xs.take ps.length=ps then xs.drop ps.length else xs),.bool (decide (xs.take ps.length=ps))]/\M=F:=by
 refine Spec.intro Tryz.func274 rfl rfl fun B F=>?_
 simp only [Tryz.ntmps274,List.cons_append,List.nil_append,env0,Nat.reduceAdd]
 by_cases hp:xs.take ps.length=ps
 ·have hl:ps.length<=xs.length:=by have:=congrArg List.length hp;rw [List.length_take] at this;omega
  refine .sr (.assign (.assign (.z (.seq (.sr (.move (.move ?_)))))))
  refine .call (hc:=Tryz.call248) (sp:=hasPre) (h:=?_)
  rintro _ _ ⟨rfl,rfl⟩
  refine .cast (d:=8) (u:=.bool true) rfl (congrArg Value.bool (decide_eq_true hp)) ?_
  refine .not ?_
  refine .z ?_
  refine .condF rfl rfl ?_
  refine .skip (.next (.sr (.move (.move ?_))))
  refine .lenT _ ?_ st9
  refine .subT xs ?_ st9
  refine .assign (.assign (.z ?_))
  refine .ret (?_)
  exact .ret2 (h1:=.tmp (t:=4) rfl) (h2:=.tmp (t:=5) rfl) ⟨_,⟨by rw [if_pos hp,decide_eq_true hp];rfl,rfl⟩,Am.auto⟩
 ·refine .sr (.assign (.assign (.z (.seq (.sr (.move (.move ?_)))))))
  refine .call (hc:=Tryz.call248) (sp:=hasPre) (h:=?_)
  rintro _ _ ⟨rfl,rfl⟩
  refine .cast (d:=8) (u:=.bool false) rfl (congrArg Value.bool (decide_eq_false hp)) ?_
  refine .not ?_
  refine .z ?_
  refine .condT rfl rfl ?_
  refine .sr (.move (.assign (.assign (.z ?_))))
  refine .ret (.thenRet (?_))
  exact .ret2 (h1:=.tmp (t:=4) rfl) (h2:=.tmp (t:=5) rfl) ⟨_,⟨by rw [if_neg hp,decide_eq_false hp],rfl⟩,Am.auto⟩
theorem cutPre {xs ps:Bytes}:Spec Tryz.prog 232 #[sv xs,sv ps] [] fun F v M=>v=.tuple #[sv (if xs.take ps.length=ps then xs.drop ps.length else xs),.bool (decide (xs.take ps.length=ps))]/\M=F:=by
 refine Spec.intro Tryz.func232 rfl rfl fun B F=>?_
 simp only [Tryz.ntmps232,List.cons_append,List.nil_append,env0,Nat.reduceAdd]
 refine .sr (.assign (.assign (.x (.move (.move ?_)))))
 refine .call (hc:=Tryz.call274) (sp:=cutPreL) (h:=?_)
 rintro _ _ ⟨rfl,rfl⟩
 refine .extract ?_
 refine .extract ?_
 refine .assign (.assign (.z ?_))
 refine .ret (?_)
 exact .ret2 (h1:=.tmp (t:=4) rfl) (h2:=.tmp (t:=5) rfl) ⟨_,⟨rfl,rfl⟩,Am.auto⟩
theorem countSl {xs:Bytes}:Spec Tryz.prog 305 #[sv xs,sv [47]] [] fun F v M=>v=.int .i64 ((Lib.countByte xs 47:Nat):Int)/\M=F:=by
 refine Spec.intro Tryz.func305 rfl rfl fun B F=>?_
 simp only [Tryz.ntmps305,List.cons_append,List.nil_append,env0,Nat.reduceAdd]
 refine .sr (.assign (.z (.seq (.sr (.move ?_)))))
 refine .lenT _ ?_ st9
 refine .eqi ?_
 refine .z ?_
 refine .condF rfl rfl ?_
 refine .skip (.next (.seq (.sr (.move ?_))))
 refine .lenT _ ?_ st9
 refine .eqi ?_
 refine .z ?_
 refine .condT rfl rfl ?_
 refine .sr (.move (.move ?_))
 refine .ixT (p:=0) (v:=47) [47] ?_ st9 rfl
 refine .callX (hc:=countX xs ((47:UInt8).toNat:Int)) (h:=?_)
 refine .assign (.z ?_)
 refine .ret (.thenRet (?_))
 exact .ret1 (h1:=.tmp (t:=4) rfl) ⟨_,⟨rfl,rfl⟩,Am.auto⟩
theorem indexSlL {xs:Bytes}:Spec Tryz.prog 329 #[sv xs,sv [47]] [] fun F v M=>v=.int .i64 (Lib.indexByte xs 47)/\M=F:=by
 refine Spec.intro Tryz.func329 rfl rfl fun B F=>?_
 simp only [Tryz.ntmps329,List.cons_append,List.nil_append,env0,Nat.reduceAdd]
 by_cases hx:[47]=xs
 ·refine .sr (.assign (.x (.move ?_)))
  refine .lenT _ ?_ st9
  refine .assign (.z (.seq (.block (.sr (.move ?_)))))
  refine .eqi ?_
  refine .move ?_
  refine .gT ?_
  refine .move ?_
  refine .gT ?_
  refine .move ?_
  refine .gT ?_
  refine .eqS [47] xs ?_
  refine .cast (d:=22) (u:=.bool true) rfl (congrArg Value.bool (decide_eq_true hx)) ?_
  refine .pickF ?_
  refine .assign (.z ?_)
  refine .condT rfl rfl ?_
  refine .sr (.assign (.z ?_))
  refine .ret (.blockRet (.thenRet (?_)))
  subst hx
  exact .ret1 (h1:=.tmp (t:=4) rfl) ⟨_,⟨rfl,rfl⟩,Am.auto⟩
 ·refine .sr (.assign (.x (.move ?_)))
  refine .lenT _ ?_ st9
  refine .assign (.z (.seq (.block (.sr (.move ?_)))))
  refine .eqi ?_
  refine .move ?_
  refine .gT ?_
  refine .move ?_
  refine .gT ?_
  refine .move ?_
  refine .gT ?_
  refine .eqS [47] xs ?_
  refine .cast (d:=22) (u:=.bool false) rfl (congrArg Value.bool (decide_eq_false hx)) ?_
  refine .pickF ?_
  refine .assign (.z ?_)
  refine .condF rfl rfl ?_
  refine .sr (.move ?_)
  refine .eqi ?_
  refine .assign (.z ?_)
  refine .condT rfl rfl ?_
  refine .sr (.move (.move ?_))
  refine .ixT (p:=0) (v:=47) [47] ?_ st9 rfl
  refine .call (hc:=Tryz.call340) (sp:=idxByteL (xs:=xs) (c:=((47:UInt8).toNat:Int))) (h:=?_)
  rintro _ _ ⟨rfl,rfl⟩
  refine .assign (.z ?_)
  refine .ret (.blockRet (.thenRet (?_)))
  exact .ret1 (h1:=.tmp (t:=4) rfl) ⟨_,⟨rfl,rfl⟩,Am.auto⟩
theorem indexSl {xs:Bytes}:Spec Tryz.prog 306 #[sv xs,sv [47]] [] fun F v M=>v=.int .i64 (Lib.indexByte xs 47)/\M=F:=by
 refine Spec.intro Tryz.func306 rfl rfl fun B F=>?_
 simp only [Tryz.ntmps306,List.cons_append,List.nil_append,env0,Nat.reduceAdd]
 refine .sr (.assign (.x (.move (.move ?_))))
 refine .call (hc:=Tryz.call329) (sp:=indexSlL) (h:=?_)
 rintro _ _ ⟨rfl,rfl⟩
 refine .assign (.z ?_)
 refine .ret (?_)
 exact .ret1 (h1:=.tmp (t:=4) rfl) ⟨_,⟨rfl,rfl⟩,Am.auto⟩
def svs (l:List Bytes):List Value:=l.map sv
theorem svs_length (l:List Bytes):(svs l).length=l.length:=List.length_map ..
theorem svs_get {l:List Bytes} {i:Nat} (h:i < l.length):(svs l)[i]?=some (sv l[i]):=by simp [svs,h]
structure SpI (xs:Bytes) (i:Nat) (dn:List Bytes) (rest:Bytes):Prop where
 len:dn.length=i
 all:splitSl xs=dn++splitSl rest
 le:rest.length<=xs.length
theorem svs_set (dn:List Bytes) (k:Nat) (x:Bytes) (hk:0 < k):(svs dn++List.replicate k (sv [])).set dn.length (sv x)=svs (dn++[x])++List.replicate (k - 1) (sv []):=by
 obtain ⟨k,rfl⟩:∃ k',k=k'+1:=⟨k - 1,by omega⟩
 rw [List.set_append_right _ _ (by rw [svs_length];exact Nat.le_refl _),svs_length,Nat.sub_self,List.replicate_succ]
 unfold svs
 rw [List.map_append,List.append_assoc]
 rfl
theorem genSplitSl {xs:Bytes} (hl:xs.length<=1000000):Spec Tryz.prog 275 #[sv xs,sv [47],.int .i64 0,.int .i64 (-1)] [] fun F v M=>∃ u,v=u/\M=rowR 9 1 u (splitSl xs).length (svs (splitSl xs)) :: F:=by
 refine Spec.intro Tryz.func275 rfl rfl fun B F=>?_
 simp only [Tryz.ntmps275,List.cons_append,List.nil_append,env0,Nat.reduceAdd]
 obtain ⟨N,hN⟩:∃ N,(splitSl xs).length=N:=⟨_,rfl⟩
 have hcl:=splitSl_len xs
 have hcx:Lib.countByte xs 47<=xs.length:=List.count_le_length
 refine .sr (.assign (.z (.seq (.sr (.move ?_)))))
 refine .eqi ?_
 refine .z ?_
 refine .condF rfl rfl ?_
 refine .skip (.next (.seq (.sr (.move ?_))))
 refine .eqS [47] [] ?_
 refine .cast (d:=15) (u:=.bool false) rfl rfl ?_
 refine .z ?_
 refine .condF rfl rfl ?_
 refine .skip (.next (.seq (.sr (.move ?_))))
 refine .lss ?_
 refine .z ?_
 refine .condT rfl rfl ?_
 refine .region (.move (.move ?_))
 refine .call (hc:=Tryz.call305) (sp:=countSl) (h:=?_)
 rintro _ _ ⟨rfl,hM⟩
 obtain rfl:=hM.symm
 refine .add ?_
 refine .cast (d:=24) (u:=.int .i64 (N:Int)) rfl (congrArg (Value.int .i64) (by omega)) ?_
 refine .assign (.x (.move (.move ?_)))
 refine .lenT _ ?_ st9
 refine .add ?_
 refine .minI ?_
 refine .cast (d:=29) (u:=.int .i64 (N:Int)) rfl (congrArg (Value.int .i64) (by split<;>omega)) ?_
 refine .assign (.x (.move ?_))
 refine .mkS (k:=(N:Int)) z9 (fun b31=>?_) so92 (by omega) (by omega) (by omega)
 refine .cast (d:=31) (u:=.slice (some ⟨b31,0,none⟩) N N) rfl (by rw [Int.toNat_natCast]) ?_
 refine .assign (.x (.move ?_))
 refine .sub ?_
 refine .assign (.x (.assign (.z (.seq (.block ?_)))))
 simp only [Int.toNat_natCast]
 refine .to (A:=buf b31 9 N (List.replicate N (.string ⟨#[]⟩))) (A':=buf b31 9 N (svs []++List.replicate (N - 0) (sv []))) (fun h hh=>hh) ?_
 refine .loopA (σ:=Nat×List Bytes×Bytes) (fun y=>[(0,sv y.2.2),(1,sv [47]),(2,.int .i64 0),(3,.int .i64 ((N:Int) - 1)),(9,.slice (some ⟨b31,0,none⟩) N N),(10,.int .i64 ((y.1:Nat):Int))]) (fun y=>buf b31 9 N (svs y.2.1++List.replicate (N - y.1) (sv [])) :: F) (fun y=>SpI xs y.1 y.2.1 y.2.2/\y.1 < N) (fun y=>N - y.1) (0,[],xs) ⟨⟨rfl,rfl,Nat.le_refl _⟩,by show 0 < N;omega⟩ ?_
 rintro y hy
 obtain ⟨i,dn,rest⟩:=y
 obtain ⟨hy,hiN⟩:=hy
 simp only at hy hiN ⊢
 have hdl:=hy.len
 refine .seq (.sr (.move (.move ?_)))
 refine .lss ?_
 refine .z ?_
 refine .cond rfl (fun hb=>?_) (fun hb=>?_)
 ·have hlt:i+1 < N:=by have h:(i:Int) < (N:Int) - 1:=of_decide_eq_true hb;omega
  have h47l:([47]:Bytes).length=1:=rfl
  have hrl:=splitSl_len rest
  have hal:=congrArg List.length hy.all
  rw [List.length_append,hN,hrl,hdl] at hal
  have hge:=Lib.indexByte_ge rest 47
  have hne:Lib.indexByte rest 47≠-1:=fun h=>by
   have h1:=Lib.indexByte_none h
   have h2:=splitSl_none h1
   rw [h2] at hrl
   simp only [List.length_cons,List.length_nil] at hrl
   omega
  obtain ⟨m,hm⟩:∃ m:Nat,Lib.indexByte rest 47=(m:Int):=⟨(Lib.indexByte rest 47).toNat,by omega⟩
  obtain ⟨h47,hbf⟩:=Lib.indexByte_some hm
  have hml:m < rest.length:=by
   by_cases h:m < rest.length
   ·exact h
   ·rw [List.getElem?_eq_none (by omega)] at h47;cases h47
  have hst:=splitSl_step h47 hbf
  have hle:=hy.le
  refine .skip (.next (.block (.sr (.move (.move ?_)))))
  refine .call (hc:=Tryz.call306) (sp:=indexSl) (h:=?_)
  rintro _ _ ⟨rfl,rfl⟩
  rw [hm]
  refine .assign (.z (.seq (.sr (.move ?_))))
  refine .lss ?_
  refine .z ?_
  refine .condF rfl (congrArg Value.bool (by first|simp;done|simp;omega|omega)) ?_
  refine .skip (.next (.sr (.move (.move (.move (.move (.move ?_)))))))
  refine .add ?_
  refine .cast (d:=47) (u:=.int .i64 (m:Int)) rfl (congrArg (Value.int .i64) (by omega)) ?_
  refine .subTH rest ?_ st9
  refine .idx1 ?_ so92
  refine .stB (i:=0+((i:Nat):Int).toNat) (xs:=svs dn++List.replicate (N - i) (sv [])) ?_ sc9 (by rw [List.length_append,svs_length,List.length_replicate];omega)
  refine .to (A:=buf b31 9 N ((svs dn++List.replicate (N - i) (sv [])).set (0+((i:Nat):Int).toNat) (sv (rest.take ((m:Nat):Int).toNat)))) (A':=buf b31 9 N (svs (dn++[rest.take m])++List.replicate (N - (i+1)) (sv []))) (fun h hh=>by rw [show 0+((i:Nat):Int).toNat=dn.length from by omega,Int.toNat_natCast,svs_set _ _ _ (by omega),show N - i - 1=N - (i+1) from by omega] at hh;exact hh) ?_
  refine .x (.move (.move (.move ?_)))
  refine .lenT _ ?_ st9
  refine .add ?_
  refine .subT rest ?_ st9
  refine .cast (d:=55) (u:=sv (rest.drop (m+1))) rfl (congrArg sv (congrArg (fun k=>rest.drop k) (by show ((m:Int)+1).toNat=m+1;omega))) ?_
  refine .assign (.y (.move ?_))
  refine .add ?_
  refine .assign (.nil (.blockNormal ?_))
  refine .cast (d:=10) (u:=.int .i64 ((i+1:Nat):Int)) rfl (congrArg (Value.int .i64) (by omega)) ?_
  exact .back (i+1,dn++[rest.take m],rest.drop (m+1)) ⟨⟨by rw [List.length_append,hdl];rfl,by rw [hy.all,hst,List.append_assoc];rfl,by rw [List.length_drop];omega⟩,by show i+1 < N;omega⟩ (by show N - (i+1) < N - i;omega)
 ·have hge:¬ i+1 < N:=by have h:¬ (i:Int) < (N:Int) - 1:=of_decide_eq_false hb;omega
  have hal:=congrArg List.length hy.all
  rw [List.length_append,hN,hdl] at hal
  have hone:splitSl rest=[rest]:=by
   refine splitSl_none fun k hk=>?_
   have h1:=splitSl_len rest
   have h2:0 < Lib.countByte rest 47:=List.count_pos_iff.2 (List.mem_of_getElem? hk)
   omega
  refine .exit (.thenExit (.thenExit (.blockExit (?_))))
  refine .next (.sr (.move (.move (.move ?_))))
  refine .idx1 ?_ so92
  refine .stB (i:=0+((i:Nat):Int).toNat) (xs:=svs dn++List.replicate (N - i) (sv [])) ?_ sc9 (by rw [List.length_append,svs_length,List.length_replicate];omega)
  refine .to (A:=buf b31 9 N ((svs dn++List.replicate (N - i) (sv [])).set (0+((i:Nat):Int).toNat) (sv rest))) (A':=rowR 9 1 (.slice (some ⟨b31,0,none⟩) (splitSl xs).length N) (splitSl xs).length (svs (splitSl xs))) (fun h hh=>by rw [show 0+((i:Nat):Int).toNat=dn.length from by omega,svs_set _ _ _ (by omega),show N - i - 1=0 from by omega,List.replicate_zero,List.append_nil,<-hone,<-hy.all] at hh;have:=rowR_of_buf (by unfold maxLen;omega) h hh;rwa [svs_length] at this) ?_
  refine .x (.move (.move ?_))
  refine .add ?_
  refine .slcH ?_ so92
  refine .cast (d:=65) (u:=.slice (some ⟨b31,0,none⟩) (splitSl xs).length N) rfl (by rw [show ((i:Int)+1).toNat=(splitSl xs).length from by omega]) ?_
  refine .assign (.z ?_)
  refine .ret (?_)
  exact .ret1 (h1:=.tmp (t:=8) rfl) ⟨_,⟨_,rfl,rfl⟩,Am.auto⟩
theorem splitSlS {xs:Bytes} (hl:xs.length<=1000000):Spec Tryz.prog 233 #[sv xs,sv [47]] [] fun F v M=>∃ u,v=u/\M=rowR 9 1 u (splitSl xs).length (svs (splitSl xs)) :: F:=by
 refine Spec.intro Tryz.func233 rfl rfl fun B F=>?_
 simp only [Tryz.ntmps233,List.cons_append,List.nil_append,env0,Nat.reduceAdd]
 refine .sr (.assign (.x (.move (.move ?_))))
 refine .call (hc:=Tryz.call275) (sp:=genSplitSl hl) (h:=?_)
 rintro _ _ ⟨u,hu0,rfl⟩
 rw [hu0]
 clear hu0
 refine .assign (.z ?_)
 refine .ret (?_)
 exact .ret1 (h1:=.tmp (t:=4) rfl) ⟨_,⟨_,rfl,rfl⟩,Am.auto⟩
theorem fsPartsA {path:Bytes} (hl:path.length<=1000000):Spec Tryz.prog 154 #[sv path] [] fun F v M=>(∃ l u,partsT path=some l/\v=.tuple #[u,.int .i64 0]/\M=rowR 9 1 u l.length (svs l) :: F) ∨ (partsT path=none/\v=.tuple #[.slice none 0 0,.int .i64 1]/\M=F):=by
 refine Spec.intro Tryz.func154 rfl rfl fun B F=>?_
 simp only [Tryz.ntmps154,List.cons_append,List.nil_append,env0,Nat.reduceAdd]
 by_cases h1:path=[47]
 ·refine .sr (.assign (.assign (.z (.scope (.seq (.sr (.move ?_)))))))
  refine .eqS path [47] ?_
  refine .cast (d:=10) (u:=.bool true) rfl (congrArg Value.bool (decide_eq_true h1)) ?_
  refine .z ?_
  refine .condT rfl rfl ?_
  refine .sr (.assign ?_)
  refine .emp (rowR.nil (e:=9) (size:=1) _) ?_
  refine .assign (.z ?_)
  refine .ret (.thenRet (.scopeRet (?_)))
  exact .ret2 (h1:=.tmp (t:=2) rfl) (h2:=.tmp (t:=3) rfl) ⟨_,.inl ⟨[],.slice none 0 0,by rw [h1];rfl,rfl,rfl⟩,Am.auto⟩
 ·by_cases h2:path.take ([47]:Bytes).length=[47]
  ·obtain ⟨rest,rfl⟩:∃ rest,path=47 :: rest:=by
    cases path with
    | nil=>cases h2
    | cons x r =>
     have hx:x=47:=by
      have h2:[x]=[47]:=h2
      injection h2
     exact ⟨r,by rw [hx]⟩
   have hne:rest≠[]:=fun h=>h1 (by rw [h])
   have hrl:rest.length<=1000000:=by rw [List.length_cons] at hl;omega
   obtain ⟨l,hsl⟩:∃ l,splitSl rest=l:=⟨_,rfl⟩
   have hpt:partsT (47 :: rest)=if 8 < l.length then none else if l.all nameOk then some l else none:=by
    show (if (47:UInt8)=47 then (if rest=[] then some [] else if 8 < (splitSl rest).length then none else if (splitSl rest).all nameOk then some (splitSl rest) else none) else none)=_
    rw [if_pos rfl,if_neg hne,hsl]
   by_cases h8:8 < l.length
   ·refine .sr (.assign (.assign (.z (.scope (.seq (.sr (.move ?_)))))))
    refine .eqS (47 :: rest) [47] ?_
    refine .cast (d:=10) (u:=.bool false) rfl (congrArg Value.bool (decide_eq_false h1)) ?_
    refine .z ?_
    refine .condF rfl rfl ?_
    refine .skip (.next (.sr (.move ?_)))
    refine .call (hc:=Tryz.call232) (sp:=cutPre (xs:=47 :: rest) (ps:=[47])) (h:=?_)
    rintro _ _ ⟨rfl,hM⟩
    obtain rfl:=hM.symm
    rw [if_pos h2,decide_eq_true h2,show (47 :: rest).drop ([47]:Bytes).length=rest from rfl]
    refine .move ?_
    refine .extract ?_
    refine .extract ?_
    refine .assign (.assign (.z (.seq (.sr (.move ?_)))))
    refine .not ?_
    refine .z ?_
    refine .condF rfl rfl ?_
    refine .skip (.next (.sr (.move ?_)))
    refine .call (hc:=Tryz.call233) (sp:=splitSlS hrl) (h:=?_)
    rintro _ _ ⟨u,hu0,rfl⟩
    rw [hu0]
    clear hu0
    refine .fact (rowR_shape (el:=9) (size:=1) (v:=u) (k:=(splitSl rest).length) (xs:=svs (splitSl rest))) (fun ⟨A,cc,hu,hR,hc1,hc2,hlen⟩=>?_)
    subst hu
    rw [hsl] at hR hc1 hlen ⊢
    refine .assign (.z (.seq (.sr (.move ?_))))
    refine .lenS ?_ sl92
    refine .gtr ?_
    refine .z ?_
    refine .condT rfl (congrArg Value.bool (by first|simp;done|simp;omega|omega)) ?_
    refine .sr (.assign (.assign (.z ?_)))
    refine .ret (.thenRet (.scopeRet (?_)))
    exact .ret2 (h1:=.tmp (t:=2) rfl) (h2:=.tmp (t:=3) rfl) ⟨_,.inr ⟨(by rw [hpt,if_pos h8]),rfl,rfl⟩,Am.auto⟩
   ·refine .sr (.assign (.assign (.z (.scope (.seq (.sr (.move ?_)))))))
    refine .eqS (47 :: rest) [47] ?_
    refine .cast (d:=10) (u:=.bool false) rfl (congrArg Value.bool (decide_eq_false h1)) ?_
    refine .z ?_
    refine .condF rfl rfl ?_
    refine .skip (.next (.sr (.move ?_)))
    refine .call (hc:=Tryz.call232) (sp:=cutPre (xs:=47 :: rest) (ps:=[47])) (h:=?_)
    rintro _ _ ⟨rfl,hM⟩
    obtain rfl:=hM.symm
    rw [if_pos h2,decide_eq_true h2,show (47 :: rest).drop ([47]:Bytes).length=rest from rfl]
    refine .move ?_
    refine .extract ?_
    refine .extract ?_
    refine .assign (.assign (.z (.seq (.sr (.move ?_)))))
    refine .not ?_
    refine .z ?_
    refine .condF rfl rfl ?_
    refine .skip (.next (.sr (.move ?_)))
    refine .call (hc:=Tryz.call233) (sp:=splitSlS hrl) (h:=?_)
    rintro _ _ ⟨u,hu0,rfl⟩
    rw [hu0]
    clear hu0
    refine .fact (rowR_shape (el:=9) (size:=1) (v:=u) (k:=(splitSl rest).length) (xs:=svs (splitSl rest))) (fun ⟨A,cc,hu,hR,hc1,hc2,hlen⟩=>?_)
    subst hu
    rw [hsl] at hR hc1 hlen ⊢
    refine .assign (.z (.seq (.sr (.move ?_))))
    refine .lenS ?_ sl92
    refine .gtr ?_
    refine .z ?_
    refine .condF rfl (congrArg Value.bool (by first|simp;done|simp;omega|omega)) ?_
    refine .skip (.next (.seq (.label (.next (.seq (.sr (.move ?_)))))))
    refine .lenS ?_ sl92
    refine .move (.z (.block ?_))
    refine .loopA (σ:=Nat) (fun k=>[(6,.slice A l.length cc),(23,.slice A l.length cc),(24,.int .i64 ((l.length:Nat):Int)),(25,.int .i64 ((k:Nat):Int))]) (fun _=>rowR 9 1 (.slice A l.length cc) l.length (svs l) :: F) (fun k=>k<=l.length/\∀ j,j < k->nameOk (l.getD j [])=true) (fun k=>l.length - k) 0 ⟨Nat.zero_le _,fun j hj=>absurd hj (Nat.not_lt_zero _)⟩ ?_
    rintro k hk
    refine .sr ?_
    refine .lss ?_
    refine .z (.seq ?_)
    refine .cond rfl (fun hb=>?_) (fun hb=>?_)
    ·have hlt:k < l.length:=by have h:(k:Int) < (l.length:Int):=of_decide_eq_true hb;omega
     have hll:=svs_length l
     rcases A with _ | ⟨ab,ao,asp⟩
     ·exact absurd hR (fun h=>by have h2:svs l=[]:=h;rw [h2] at hll;simp at hll;omega)
     have hsp:asp=none:=hR.1
     subst hsp
     have hgk:(svs l)[((k:Nat):Int).toNat]?=some (sv l[k]):=svs_get hlt
     refine .skip (.next (.seq (.block (.sr ?_))))
     refine .idx1 ?_ so92
     refine .ldR (i:=((k:Nat):Int).toNat) ?_ sc9 hR hgk
     refine .assign (.z (.seq (.sr (.move ?_))))
     refine .call (hc:=Tryz.call234) (sp:=dName (xs:=l[k])) (h:=?_)
     rintro _ _ ⟨rfl,rfl⟩
     refine .z ?_
     cases hnm:nameOk l[k]
     ·refine .condF rfl rfl ?_
      refine .skip (.next (.sr (.assign (.assign (.z ?_)))))
      refine .ret (.blockRet (.thenRet (.thenRet (.blockRet (.thenRet (.scopeRet (?_)))))))
      have hall:l.all nameOk=false:=by
       rw [List.all_eq_false]
       exact ⟨l[k],List.getElem_mem hlt,by rw [hnm];decide⟩
      exact .ret2 (h1:=.tmp (t:=2) rfl) (h2:=.tmp (t:=3) rfl) ⟨_,.inr ⟨(by rw [hpt,if_neg h8,if_neg (by rw [hall];decide)]),rfl,rfl⟩,Am.auto⟩
     ·refine .condT rfl rfl ?_
      refine .exit (.thenExit (.blockExit (?_)))
      refine .next (.region ?_)
      refine .add ?_
      refine .move (.nil ?_)
      refine .cast (d:=25) (u:=.int .i64 ((k+1:Nat):Int)) rfl (congrArg (Value.int .i64) (by omega)) ?_
      exact .back (k+1) ⟨by show k+1<=l.length;omega,fun j hj=>if hjk:j < k then hk.2 j hjk else by rw [show j=k from by omega,List.getD_eq_getElem?_getD,List.getElem?_eq_getElem hlt];exact hnm⟩ (by show l.length - (k+1) < l.length - k;omega)
    ·have hge:¬ k < l.length:=by have h:¬ (k:Int) < (l.length:Int):=of_decide_eq_false hb;omega
     have hall:l.all nameOk=true:=by
      rw [List.all_eq_true]
      intro x hx
      obtain ⟨j,hj,rfl⟩:=List.mem_iff_getElem.1 hx
      have:=hk.2 j (by omega)
      rwa [List.getD_eq_getElem?_getD,List.getElem?_eq_getElem hj] at this
     refine .exit (.thenExit (.thenExit (.blockExit (?_))))
     refine .next (.sr (.move (.assign (.assign (.z ?_)))))
     refine .ret (.scopeRet (?_))
     exact .ret2 (h1:=.tmp (t:=2) rfl) (h2:=.tmp (t:=3) rfl) ⟨_,.inl ⟨l,_,by rw [hpt,if_neg h8,if_pos hall],rfl,rfl⟩,Am.auto⟩
  ·refine .sr (.assign (.assign (.z (.scope (.seq (.sr (.move ?_)))))))
   refine .eqS path [47] ?_
   refine .cast (d:=10) (u:=.bool false) rfl (congrArg Value.bool (decide_eq_false h1)) ?_
   refine .z ?_
   refine .condF rfl rfl ?_
   refine .skip (.next (.sr (.move ?_)))
   refine .call (hc:=Tryz.call232) (sp:=cutPre (xs:=path) (ps:=[47])) (h:=?_)
   rintro _ _ ⟨rfl,hM⟩
   obtain rfl:=hM.symm
   rw [if_neg h2,decide_eq_false h2]
   refine .move ?_
   refine .extract ?_
   refine .extract ?_
   refine .assign (.assign (.z (.seq (.sr (.move ?_)))))
   refine .not ?_
   refine .z ?_
   refine .condT rfl rfl ?_
   refine .sr (.assign (.assign (.z ?_)))
   refine .ret (.thenRet (.scopeRet (?_)))
   have hno:partsT path=none:=by
    cases path with
    | nil=>rfl
    | cons x r =>
     have hx:x≠47:=fun hx=>h2 (by rw [hx];rfl)
     show (if x=47 then _ else none)=none
     rw [if_neg hx]
   exact .ret2 (h1:=.tmp (t:=2) rfl) (h2:=.tmp (t:=3) rfl) ⟨_,.inr ⟨hno,rfl,rfl⟩,Am.auto⟩
theorem fsParts {path:Bytes} {l:List Bytes} (hl:path.length<=1000000) (hp:partsT path=some l):Spec Tryz.prog 154 #[sv path] [] fun F v M=>∃ u,v=.tuple #[u,.int .i64 0]/\M=rowR 9 1 u l.length (svs l) :: F:=by
 refine (fsPartsA hl).post ?_
 rintro F v M (⟨l',u,h,rfl,rfl⟩ | ⟨h,_⟩)
 ·rw [hp] at h
  injection h with h
  subst h
  exact ⟨_,⟨u,rfl,rfl⟩,Wk.refl⟩
 ·rw [hp] at h;cases h
theorem fsPartsNo {path:Bytes} (hl:path.length<=1000000) (hp:partsT path=none):Spec Tryz.prog 154 #[sv path] [] fun F v M=>v=.tuple #[.slice none 0 0,.int .i64 1]/\M=F:=by
 refine (fsPartsA hl).post ?_
 rintro F v M (⟨l',u,h,rfl,rfl⟩ | ⟨h,rfl,rfl⟩)
 ·rw [hp] at h;cases h
 ·exact ⟨_,⟨rfl,rfl⟩,Wk.refl⟩
theorem fo129_6:fieldOk Tryz.prog 129 6 6=true:=by kernel_rfl
theorem sc127:scalarOk Tryz.prog 127=true:=by kernel_rfl
theorem fo129_2:fieldOk Tryz.prog 129 2 2=true:=by kernel_rfl
theorem sc126:scalarOk Tryz.prog 126=true:=by kernel_rfl
theorem mp127:mapOk Tryz.prog 127 270 3=true:=by kernel_rfl
theorem ptr23:ptrOk Tryz.prog 23=true:=by kernel_rfl
theorem fo129_0:fieldOk Tryz.prog 129 0 0=true:=by kernel_rfl
theorem bdLink (d:Int) (s:ByteArray):BuildOk Tryz.prog 270 [(0,.int .i64 d),(1,.string s)] #[.int .i64 d,.string s]:=fun w=>by kernel_rfl
abbrev KL:=Int×Bytes
def encL:KL->Value:=fun k=>.agg (xvs [.inl k.1,.inr k.2]).toArray
theorem klL:KeyLaw Tryz.prog 270 encL:=mixKeys (fun k:KL=>[.inl k.1,.inr k.2]) [true,false] (by kernel_rfl) (fun _=>rfl) (fun a b h=>by
 obtain ⟨a1,a2⟩:=a
 obtain ⟨b1,b2⟩:=b
 injection h with h1 h2
 injection h1 with h1
 injection h2 with h2 _
 injection h2 with h2
 have h1:a1=b1:=h1
 have h2:a2=b2:=h2
 rw [h1,h2])
structure LDP (T:FT) (y:Array MapEntry×Nat×List (KL×Value)):Prop where
 hm:MapIs encL y.1 y.2.1 y.2.2
 ok:∀ d nm v,kget y.2.2 (d,nm)=some v->∃ i:Nat,v=nI i/\0<=d/\findT T d.toNat nm=(i,0)
def LD (mp:Nat) (T:FT):HP:=fun h=>∃ y,LDP T y/\star [pt mp (.map y.1 y.2.1)] h
theorem LD.opens (mp:Nat) (T:FT):Opens (LD mp T) (LDP T) (fun y=>[pt mp (.map y.1 y.2.1)]):=⟨fun h hh=>hh,fun x hp h hh=>⟨x,hp,hh⟩⟩
attribute [irreducible] LD
theorem LDP.empty (T:FT) (c:Nat):LDP T (#[],c,[]):=⟨MapIs.empty _ _,fun d nm v h=>by cases h⟩
theorem LDP.put {T:FT} {es:Array MapEntry} {c:Nat} {kv:List (KL×Value)} {es':Array MapEntry} {c':Nat} (h:LDP T (es,c,kv)) {d i:Nat} {nm:Bytes} (hm:MapIs encL es' c' (kput kv ((d:Int),nm) (nI i))) (hf:findT T d nm=(i,0)):LDP T (es',c',kput kv ((d:Int),nm) (nI i)):=by
 refine ⟨hm,fun d' nm' v hg=>?_⟩
 rw [kget_put] at hg
 split at hg
 ·rename_i he
  injection he with h1 h2
  injection hg with hg
  exact ⟨i,hg.symm,by omega,by rw [h1,h2,Int.toNat_natCast];exact hf⟩
 ·exact h.ok d' nm' v hg
def fO (c a s:Nat) (b ov dead:Bool) (mp:Nat):Obj:=.cells #[.pointer (some ⟨c,0,none⟩),.pointer (some ⟨a,0,none⟩),.pointer (some ⟨s,0,none⟩),.bool b,.bool ov,.bool dead,.map (some mp)] 129 (0,0)
theorem dFindT {s a c:Nat} {p:Pl} {T:FT} {F0:FM} {W:Nat} {op:Bool} {d:Nat} {nm:Bytes} (ho:PlOk p) (hT:TOk T):Spec Tryz.prog 184 #[.pointer (some ⟨s,0,none⟩),nI d,sv nm] [IN s a c p F0 (fmT T) W op] fun G v M=>v=.tuple #[nI (findT T d nm).1,nI (findT T d nm).2]/\M=IN s a c p F0 (fmT T) W op :: G:=by
 obtain ⟨i,e,hf⟩:∃ i e,findT T d nm=(i,e):=⟨_,_,rfl⟩
 rw [hf]
 by_cases he:e=0
 ·subst he
  obtain ⟨hn,sl,q,hd,hl⟩:=findT_ok hf
  have:=hT d sl hd
  exact dFind (s:=s) (a:=a) (c:=c) (p:=p) (F0:=F0) (Fm:=fmT T) (W:=W) (op:=op) ho hn (fmT_some hd) this.1 (by omega) (lookS_some hl)
 ·obtain ⟨rfl,h | ⟨hn,rfl,sl,hd,hl⟩⟩:=findT_err hf he
  ·exact dFindE (s:=s) (a:=a) (c:=c) (p:=p) (F0:=F0) (Fm:=fmT T) (W:=W) (op:=op) (d:=(d:Int)) (e:=(e:Int)) ho h (by omega)
  ·have:=hT d sl hd
   exact dFindNo (s:=s) (a:=a) (c:=c) (p:=p) (F0:=F0) (Fm:=fmT T) (W:=W) (op:=op) ho hn (fmT_some hd) this.1 (by omega) (lookS_none hl)
theorem fsFind {f s a c mp:Nat} {b ov dead:Bool} {p:Pl} {T:FT} {F0:FM} {W:Nat} {op:Bool} {d:Nat} {nm:Bytes} (ho:PlOk p) (hT:TOk T):Spec Tryz.prog 110 #[.pointer (some ⟨f,0,none⟩),nI d,sv nm] [pt f (fO c a s b ov dead mp),LD mp T,IN s a c p F0 (fmT T) W op] fun F v M=>v=.tuple #[nI (findT T d nm).1,nI (findT T d nm).2]/\M=pt f (fO c a s b ov dead mp) :: LD mp T :: IN s a c p F0 (fmT T) W op :: F:=by
 refine Spec.intro Tryz.func110 rfl rfl fun B F=>?_
 simp only [Tryz.ntmps110,List.cons_append,List.nil_append,env0,Nat.reduceAdd]
 refine .openR (LD.opens mp T) fun y hy=>?_
 obtain ⟨es,cl,kv⟩:=y
 simp only [List.cons_append,List.nil_append]
 cases hg:kget kv ((d:Int),nm) with
 | some v =>
  obtain ⟨i,rfl,_,hf⟩:=hy.ok _ _ _ hg
  rw [Int.toNat_natCast] at hf
  refine .sr (.assign (.assign (.z (.seq (.sr (.move ?_))))))
  refine .nilCheck ?_
  refine .fa ?_ fo129_6
  refine .ld ?_ sc127
  refine .move (.move ?_)
  refine .build ?_ (bdLink _ _)
  refine .lookOk (k:=((d:Int),nm)) klL hy.hm mp127 zv3 ?_
  refine .cast (d:=20) (u:=.tuple #[nI i,.bool true]) rfl (by rw [hg];rfl) ?_
  refine .move ?_
  refine .extract ?_
  refine .extract ?_
  refine .assign (.assign (.x (.move (.z ?_))))
  refine .condT rfl rfl ?_
  refine .sr (.move (.assign (.assign (.z ?_))))
  refine .ret (.thenRet (?_))
  refine .shutR (LD.opens mp T) (es,cl,kv) hy ?_
  exact .ret2 (h1:=.tmp (t:=6) rfl) (h2:=.tmp (t:=7) rfl) ⟨_,⟨by first | rfl | (rw [hf];rfl),rfl⟩,Am.auto⟩
 | none =>
  obtain ⟨i,e,hf⟩:∃ i e,findT T d nm=(i,e):=⟨_,_,rfl⟩
  by_cases he:e=0
  ·subst he
   refine .sr (.assign (.assign (.z (.seq (.sr (.move ?_))))))
   refine .nilCheck ?_
   refine .fa ?_ fo129_6
   refine .ld ?_ sc127
   refine .move (.move ?_)
   refine .build ?_ (bdLink _ _)
   refine .lookOk (k:=((d:Int),nm)) klL hy.hm mp127 zv3 ?_
   refine .cast (d:=20) (u:=.tuple #[nI 0,.bool false]) rfl (by rw [hg];rfl) ?_
   refine .move ?_
   refine .extract ?_
   refine .extract ?_
   refine .assign (.assign (.x (.move (.z ?_))))
   refine .condF rfl rfl ?_
   refine .skip (.next (.sr (.move ?_)))
   refine .nilCheck ?_
   refine .fa ?_ fo129_2
   refine .ld ?_ sc126
   refine .move (.move ?_)
   refine .call (hc:=Tryz.call184) (sp:=dFindT (s:=s) (a:=a) (c:=c) (p:=p) (F0:=F0) (T:=T) (W:=W) (op:=op) (d:=d) (nm:=nm) ho hT) (h:=?_)
   rintro _ _ ⟨rfl,rfl⟩
   rw [hf]
   refine .move ?_
   refine .extract ?_
   refine .extract ?_
   refine .assign (.assign (.z (.seq (.sr (.move ?_)))))
   refine .eqi ?_
   refine .z ?_
   refine .condT rfl (congrArg Value.bool (by first|simp;done|simp;omega|omega)) ?_
   refine .region (.move ?_)
   refine .nilCheck ?_
   refine .fa ?_ fo129_6
   refine .ld ?_ sc127
   refine .move (.move ?_)
   refine .build ?_ (bdLink _ _)
   refine .move ?_
   refine .upd (k:=((d:Int),nm)) klL hy.hm mp127 fun es2 c2 hm2=>?_
   refine .x (.move (.move (.assign (.assign (.z ?_)))))
   refine .ret (?_)
   refine .shutR (LD.opens mp T) (es2,c2,_) (hy.put hm2 hf) ?_
   exact .ret2 (h1:=.tmp (t:=6) rfl) (h2:=.tmp (t:=7) rfl) ⟨_,⟨by first | rfl | (rw [hf];rfl),rfl⟩,Am.auto⟩
  ·refine .sr (.assign (.assign (.z (.seq (.sr (.move ?_))))))
   refine .nilCheck ?_
   refine .fa ?_ fo129_6
   refine .ld ?_ sc127
   refine .move (.move ?_)
   refine .build ?_ (bdLink _ _)
   refine .lookOk (k:=((d:Int),nm)) klL hy.hm mp127 zv3 ?_
   refine .cast (d:=20) (u:=.tuple #[nI 0,.bool false]) rfl (by rw [hg];rfl) ?_
   refine .move ?_
   refine .extract ?_
   refine .extract ?_
   refine .assign (.assign (.x (.move (.z ?_))))
   refine .condF rfl rfl ?_
   refine .skip (.next (.sr (.move ?_)))
   refine .nilCheck ?_
   refine .fa ?_ fo129_2
   refine .ld ?_ sc126
   refine .move (.move ?_)
   refine .call (hc:=Tryz.call184) (sp:=dFindT (s:=s) (a:=a) (c:=c) (p:=p) (F0:=F0) (T:=T) (W:=W) (op:=op) (d:=d) (nm:=nm) ho hT) (h:=?_)
   rintro _ _ ⟨rfl,rfl⟩
   rw [hf]
   refine .move ?_
   refine .extract ?_
   refine .extract ?_
   refine .assign (.assign (.z (.seq (.sr (.move ?_)))))
   refine .eqi ?_
   refine .z ?_
   refine .condF rfl (congrArg Value.bool (by first|simp;done|simp;omega|omega)) ?_
   refine .skip (.next (.sr (.move (.move (.assign (.assign (.z ?_)))))))
   refine .ret (?_)
   refine .shutR (LD.opens mp T) (es,cl,kv) hy ?_
   exact .ret2 (h1:=.tmp (t:=6) rfl) (h2:=.tmp (t:=7) rfl) ⟨_,⟨by first | rfl | (rw [hf];rfl),rfl⟩,Am.auto⟩
theorem walkT_step {T:FT} {nm:Bytes} {r:List Bytes} {d:Nat} (h:(findT T d nm).2=0):walkT T d (nm :: r)=walkT T (findT T d nm).1 r:=by rw [walkT,if_pos h]
theorem walkT_stop {T:FT} {nm:Bytes} {r:List Bytes} {d:Nat} (h:(findT T d nm).2≠0):walkT T d (nm :: r)=(0,(findT T d nm).2):=by rw [walkT,if_neg h]
theorem fsWalk {f s a c mp:Nat} {b ov dead:Bool} {p:Pl} {T:FT} {F0:FM} {W:Nat} {op:Bool} {R:HP} {A:Option Addr} {cc m:Nat} {l:List Bytes} (ho:PlOk p) (hT:TOk T) (hR:Reads R A (svs l) ∨ l=[]) (hl:l.length=m) (hl8:m<=1000000):Spec Tryz.prog 155 #[.pointer (some ⟨f,0,none⟩),.slice A m cc] [pt f (fO c a s b ov dead mp),LD mp T,IN s a c p F0 (fmT T) W op,R] fun F v M=>v=.tuple #[nI (walkT T 0 l).1,nI (walkT T 0 l).2]/\M=pt f (fO c a s b ov dead mp) :: LD mp T :: IN s a c p F0 (fmT T) W op :: R :: F:=by
 refine Spec.intro Tryz.func155 rfl rfl fun B F=>?_
 simp only [Tryz.ntmps155,List.cons_append,List.nil_append,env0,Nat.reduceAdd]
 subst hl
 refine .sr (.assign (.assign (.z (.seq (.sr (.move ?_))))))
 refine .lenS ?_ sl92
 refine .move (.z (.block ?_))
 refine .loopA (σ:=Nat×Nat) (fun y=>[(0,.pointer (some ⟨f,0,none⟩)),(4,nI y.2),(8,.slice A l.length cc),(9,.int .i64 ((l.length:Nat):Int)),(10,.int .i64 ((y.1:Nat):Int))]) (fun _=>[pt f (fO c a s b ov dead mp),LD mp T,IN s a c p F0 (fmT T) W op,R]++F) (fun y=>y.1<=l.length/\walkT T y.2 (l.drop y.1)=walkT T 0 l) (fun y=>l.length - y.1) (0,0) ⟨Nat.zero_le _,rfl⟩ ?_
 rintro y hy
 obtain ⟨k,d⟩:=y
 obtain ⟨hk,hwk⟩:=hy
 simp only at hk hwk ⊢
 refine .sr ?_
 refine .lss ?_
 refine .z (.seq ?_)
 refine .cond rfl (fun hb=>?_) (fun hb=>?_)
 ·have hlt:k < l.length:=by have h:(k:Int) < (l.length:Int):=of_decide_eq_true hb;omega
  have hdk:=List.drop_eq_getElem_cons hlt
  rcases hR with hR | hR
  rotate_left
  ·subst hR;simp at hlt
  rcases A with _ | ⟨ab,ao,asp⟩
  ·exact absurd hR (fun h=>by have h2:svs l=[]:=h;have hll:=svs_length l;rw [h2] at hll;simp at hll;omega)
  have hsp:asp=none:=hR.1
  subst hsp
  have hgk:(svs l)[((k:Nat):Int).toNat]?=some (sv l[k]):=svs_get hlt
  obtain ⟨i,e,hf⟩:∃ i e,findT T d l[k]=(i,e):=⟨_,_,rfl⟩
  by_cases he:e=0
  ·subst he
   refine .skip (.next (.seq (.block (.sr ?_))))
   refine .idx1 ?_ so92
   refine .ldR (i:=((k:Nat):Int).toNat) ?_ sc9 hR hgk
   refine .assign (.x (.move (.move (.move ?_))))
   refine .call (hc:=Tryz.call110) (sp:=fsFind (f:=f) (s:=s) (a:=a) (c:=c) (mp:=mp) (b:=b) (ov:=ov) (dead:=dead) (p:=p) (T:=T) (F0:=F0) (W:=W) (op:=op) (d:=d) (nm:=l[k]) ho hT) (h:=?_)
   rintro _ _ ⟨rfl,rfl⟩
   rw [hf]
   refine .move ?_
   refine .extract ?_
   refine .extract ?_
   refine .assign (.assign (.x (.move ?_)))
   refine .nei ?_
   refine .z ?_
   refine .condF rfl (congrArg Value.bool (by first|simp;done|simp;omega|omega)) ?_
   refine .skip (.blockNormal (.next (.region ?_)))
   refine .add ?_
   refine .move (.nil ?_)
   refine .cast (d:=10) (u:=.int .i64 ((k+1:Nat):Int)) rfl (congrArg (Value.int .i64) (by omega)) ?_
   exact .back (k+1,i) ⟨by show k+1<=l.length;omega,by show walkT T i (l.drop (k+1))=_;rw [<- hwk,hdk,walkT_step (by rw [hf]),hf]⟩ (by show l.length - (k+1) < l.length - k;omega)
  ·refine .skip (.next (.seq (.block (.sr ?_))))
   refine .idx1 ?_ so92
   refine .ldR (i:=((k:Nat):Int).toNat) ?_ sc9 hR hgk
   refine .assign (.x (.move (.move (.move ?_))))
   refine .call (hc:=Tryz.call110) (sp:=fsFind (f:=f) (s:=s) (a:=a) (c:=c) (mp:=mp) (b:=b) (ov:=ov) (dead:=dead) (p:=p) (T:=T) (F0:=F0) (W:=W) (op:=op) (d:=d) (nm:=l[k]) ho hT) (h:=?_)
   rintro _ _ ⟨rfl,rfl⟩
   rw [hf]
   refine .move ?_
   refine .extract ?_
   refine .extract ?_
   refine .assign (.assign (.x (.move ?_)))
   refine .nei ?_
   refine .z ?_
   refine .condT rfl (congrArg Value.bool (by first|simp;done|simp;omega|omega)) ?_
   refine .sr (.move (.assign (.assign (.z ?_))))
   refine .ret (.blockRet (.thenRet (.thenRet (.blockRet (.thenRet (?_))))))
   have hst:walkT T 0 l=(0,e):=by rw [<- hwk,hdk,walkT_stop (by rw [hf];exact he),hf]
   exact .ret2 (h1:=.tmp (t:=4) rfl) (h2:=.tmp (t:=5) rfl) ⟨_,⟨by rw [hst];rfl,rfl⟩,Am.auto⟩
 ·have hge:¬ k < l.length:=by have h:¬ (k:Int) < (l.length:Int):=of_decide_eq_false hb;omega
  rw [List.drop_eq_nil_of_le (by omega)] at hwk
  refine .exit (.thenExit (.thenExit (.blockExit (?_))))
  refine .next (.sr (.move (.assign (.assign (.z ?_)))))
  refine .ret (?_)
  exact .ret2 (h1:=.tmp (t:=4) rfl) (h2:=.tmp (t:=5) rfl) ⟨_,⟨by rw [<- hwk];rfl,rfl⟩,Am.auto⟩
theorem nStatT {s a c:Nat} {p:Pl} {T:FT} {F0:FM} {W:Nat} {op:Bool} {i:Nat} {x:NodeT} (ho:PlOk p) (hi:T i=some x):Spec Tryz.prog 156 #[.pointer (some ⟨s,0,none⟩),nI i] [IN s a c p F0 (fmT T) W op] fun G v M=>v=.tuple #[.agg #[nI x.kind,nI x.size],.int .i64 0]/\M=IN s a c p F0 (fmT T) W op :: G:=by
 have:=nStat (s:=s) (a:=a) (c:=c) (p:=p) (F0:=F0) (F:=fmT T) (W:=W) (op:=op) (i:=i) ho (fmT_some hi)
 rwa [x.f_kind,x.f_size] at this
theorem nStatTNo {s a c:Nat} {p:Pl} {T:FT} {F0:FM} {W:Nat} {op:Bool} {i:Nat} (ho:PlOk p) (hi:T i=none):Spec Tryz.prog 156 #[.pointer (some ⟨s,0,none⟩),nI i] [IN s a c p F0 (fmT T) W op] fun G v M=>v=.tuple #[.agg #[nI 0,nI 0],.int .i64 4]/\M=IN s a c p F0 (fmT T) W op :: G :=
 nStatNo (i:=(i:Int)) ho (by rw [fileAt_nat];exact fmT_none hi)
theorem partsT_len {path:Bytes} {l:List Bytes} (h:partsT path=some l):l.length<=1000000:=by
 unfold partsT at h
 split at h
 ·cases h
 ·split at h
  ·split at h
   ·injection h with h;subst h;exact Nat.zero_le _
   ·split at h
    ·cases h
    ·split at h
     ·injection h with h;subst h;omega
     ·cases h
  ·cases h
theorem fsLeads {f s a c mp:Nat} {b ov dead:Bool} {p:Pl} {T:FT} {F0:FM} {W:Nat} {op:Bool} {path:Bytes} (ho:PlOk p) (hT:TOk T) (hpl:path.length<=1000000):Spec Tryz.prog 77 #[.pointer (some ⟨f,0,none⟩),sv path] [pt f (fO c a s b ov dead mp),LD mp T,IN s a c p F0 (fmT T) W op] fun F v M=>v=.tuple #[nI (leadsT T path).1,.agg #[nI (leadsT T path).2.1,nI (leadsT T path).2.2.1],nI (leadsT T path).2.2.2]/\M=pt f (fO c a s b ov dead mp) :: LD mp T :: IN s a c p F0 (fmT T) W op :: F:=by
 refine Spec.intro Tryz.func77 rfl rfl fun B F=>?_
 simp only [Tryz.ntmps77,List.cons_append,List.nil_append,env0,Nat.reduceAdd]
 cases hpt:partsT path with
 | none =>
  have hlt:leadsT T path=(0,0,0,1):=by unfold leadsT;rw [hpt]
  refine .sr (.assign ?_)
  refine .alloc z51 fun b5=>?_
  refine .assign (.z (.seq (.sr (.move ?_))))
  refine .eqNil ?_ ptr23
  refine .move ?_
  refine .gT ?_
  refine .move ?_
  refine .gT ?_
  refine .nilCheck ?_
  refine .gT ?_
  refine .fa ?_ fo129_0
  refine .gT ?_
  refine .ld ?_ sc124
  refine .gT ?_
  refine .eqNil ?_ ptr124
  refine .pickF ?_
  refine .z ?_
  refine .condF rfl rfl ?_
  refine .skip (.next (.sr (.move ?_)))
  refine .call (hc:=Tryz.call154) (sp:=fsPartsNo hpl hpt) (h:=?_)
  rintro _ _ ⟨rfl,rfl⟩
  refine .move ?_
  refine .extract ?_
  refine .extract ?_
  refine .assign (.assign (.z (.seq (.sr (.move ?_)))))
  refine .nei ?_
  refine .z ?_
  refine .condT rfl (congrArg Value.bool (by first|simp;done|simp;omega|omega)) ?_
  refine .sr ?_
  refine .build (cs:=#[nI 0,nI 0]) ?_ (fun w=>by kernel_rfl)
  refine .move (.assign ?_)
  refine .stV ?_ agg51
  refine .assign (.z ?_)
  refine .ret (.thenRet (?_))
  exact .ret3 (h1:=.tmp (t:=4) rfl) (h3:=.tmp (t:=6) rfl) ⟨_,⟨by rw [hlt];rfl,rfl⟩,Am.auto⟩
 | some l =>
  have hlt:leadsT T path=if (walkT T 0 l).2=0 then (match T (walkT T 0 l).1 with | some x=>((walkT T 0 l).1,x.kind,x.size,0) | none=>((walkT T 0 l).1,0,0,4)) else (0,0,0,(walkT T 0 l).2):=by unfold leadsT;rw [hpt];first | done | rfl
  have hl8:=partsT_len hpt
  obtain ⟨i,e,hw⟩:∃ i e,walkT T 0 l=(i,e):=⟨_,_,rfl⟩
  rw [hw] at hlt
  by_cases he:e=0
  ·subst he
   rw [if_pos rfl] at hlt
   cases hTi:T i with
   | some x =>
    simp only [hTi] at hlt
    refine .sr (.assign ?_)
    refine .alloc z51 fun b5=>?_
    refine .assign (.z (.seq (.sr (.move ?_))))
    refine .eqNil ?_ ptr23
    refine .move ?_
    refine .gT ?_
    refine .move ?_
    refine .gT ?_
    refine .nilCheck ?_
    refine .gT ?_
    refine .fa ?_ fo129_0
    refine .gT ?_
    refine .ld ?_ sc124
    refine .gT ?_
    refine .eqNil ?_ ptr124
    refine .pickF ?_
    refine .z ?_
    refine .condF rfl rfl ?_
    refine .skip (.next (.sr (.move ?_)))
    refine .call (hc:=Tryz.call154) (sp:=fsParts hpl hpt) (h:=?_)
    rintro _ _ ⟨u,rfl,rfl⟩
    refine .fact (rowR_shape (el:=9) (size:=1) (v:=u) (k:=l.length) (xs:=svs l)) (fun ⟨A,cc,hu,hR,hc1,hc2,hlen⟩=>?_)
    subst hu
    refine .move ?_
    refine .extract ?_
    refine .extract ?_
    refine .assign (.assign (.z (.seq (.sr (.move ?_)))))
    refine .nei ?_
    refine .z ?_
    refine .condF rfl (congrArg Value.bool (by first|simp;done|simp;omega|omega)) ?_
    refine .skip (.next (.sr (.move (.move ?_))))
    refine .call (hc:=Tryz.call155) (sp:=fsWalk (f:=f) (s:=s) (a:=a) (c:=c) (mp:=mp) (b:=b) (ov:=ov) (dead:=dead) (p:=p) (T:=T) (F0:=F0) (W:=W) (op:=op) (l:=l) (R:=rowR 9 1 (.slice A l.length cc) l.length (svs l)) ho hT (.inl hR) rfl hl8) (h:=?_)
    rintro _ _ ⟨rfl,rfl⟩
    rw [hw]
    refine .move ?_
    refine .extract ?_
    refine .extract ?_
    refine .assign (.assign (.z (.seq (.sr (.move ?_)))))
    refine .nei ?_
    refine .z ?_
    refine .condF rfl (congrArg Value.bool (by first|simp;done|simp;omega|omega)) ?_
    refine .skip (.next (.sr (.move ?_)))
    refine .nilCheck ?_
    refine .fa ?_ fo129_2
    refine .ld ?_ sc126
    refine .move ?_
    refine .call (hc:=Tryz.call156) (sp:=nStatT (s:=s) (a:=a) (c:=c) (p:=p) (F0:=F0) (T:=T) (W:=W) (op:=op) (i:=i) ho hTi) (h:=?_)
    rintro _ _ ⟨rfl,rfl⟩
    refine .move ?_
    refine .extract ?_
    refine .extract ?_
    refine .alloc z51 fun b10=>?_
    refine .stV ?_ agg51
    refine .assign (.z (.seq ?_))
    refine .dr ([pt b10 (.cells #[nI x.kind,nI x.size] 51 (0,0))]) [] 6 mixed .autoJ ?_
    refine .tk 0 rfl .move ?_
    refine .tk 1 rfl (.ldA agg51) ?_
    refine .tk 2 rfl .move ?_
    refine .tk 3 rfl .assign ?_
    refine .on 4 rfl fun hnp=>?_
    refine .stV ?_ agg51
    refine .nil (.wa hnp ?_)
    refine .tk 5 rfl .assign ?_
    refine .fin ?_
    refine .next ?_
    refine .ret (?_)
    exact .ret3 (h1:=.tmp (t:=4) rfl) (h3:=.tmp (t:=6) rfl) ⟨_,⟨by rw [hlt];rfl,rfl⟩,Am.auto⟩
   | none =>
    simp only [hTi] at hlt
    refine .sr (.assign ?_)
    refine .alloc z51 fun b5=>?_
    refine .assign (.z (.seq (.sr (.move ?_))))
    refine .eqNil ?_ ptr23
    refine .move ?_
    refine .gT ?_
    refine .move ?_
    refine .gT ?_
    refine .nilCheck ?_
    refine .gT ?_
    refine .fa ?_ fo129_0
    refine .gT ?_
    refine .ld ?_ sc124
    refine .gT ?_
    refine .eqNil ?_ ptr124
    refine .pickF ?_
    refine .z ?_
    refine .condF rfl rfl ?_
    refine .skip (.next (.sr (.move ?_)))
    refine .call (hc:=Tryz.call154) (sp:=fsParts hpl hpt) (h:=?_)
    rintro _ _ ⟨u,rfl,rfl⟩
    refine .fact (rowR_shape (el:=9) (size:=1) (v:=u) (k:=l.length) (xs:=svs l)) (fun ⟨A,cc,hu,hR,hc1,hc2,hlen⟩=>?_)
    subst hu
    refine .move ?_
    refine .extract ?_
    refine .extract ?_
    refine .assign (.assign (.z (.seq (.sr (.move ?_)))))
    refine .nei ?_
    refine .z ?_
    refine .condF rfl (congrArg Value.bool (by first|simp;done|simp;omega|omega)) ?_
    refine .skip (.next (.sr (.move (.move ?_))))
    refine .call (hc:=Tryz.call155) (sp:=fsWalk (f:=f) (s:=s) (a:=a) (c:=c) (mp:=mp) (b:=b) (ov:=ov) (dead:=dead) (p:=p) (T:=T) (F0:=F0) (W:=W) (op:=op) (l:=l) (R:=rowR 9 1 (.slice A l.length cc) l.length (svs l)) ho hT (.inl hR) rfl hl8) (h:=?_)
    rintro _ _ ⟨rfl,rfl⟩
    rw [hw]
    refine .move ?_
    refine .extract ?_
    refine .extract ?_
    refine .assign (.assign (.z (.seq (.sr (.move ?_)))))
    refine .nei ?_
    refine .z ?_
    refine .condF rfl (congrArg Value.bool (by first|simp;done|simp;omega|omega)) ?_
    refine .skip (.next (.sr (.move ?_)))
    refine .nilCheck ?_
    refine .fa ?_ fo129_2
    refine .ld ?_ sc126
    refine .move ?_
    refine .call (hc:=Tryz.call156) (sp:=nStatTNo (s:=s) (a:=a) (c:=c) (p:=p) (F0:=F0) (T:=T) (W:=W) (op:=op) (i:=i) ho hTi) (h:=?_)
    rintro _ _ ⟨rfl,rfl⟩
    refine .move ?_
    refine .extract ?_
    refine .extract ?_
    refine .alloc z51 fun b10=>?_
    refine .stV ?_ agg51
    refine .assign (.z (.seq ?_))
    refine .dr ([pt b10 (.cells #[nI 0,nI 0] 51 (0,0))]) [] 6 mixed .autoJ ?_
    refine .tk 0 rfl .move ?_
    refine .tk 1 rfl (.ldA agg51) ?_
    refine .tk 2 rfl .move ?_
    refine .tk 3 rfl .assign ?_
    refine .on 4 rfl fun hnp=>?_
    refine .stV ?_ agg51
    refine .nil (.wa hnp ?_)
    refine .tk 5 rfl .assign ?_
    refine .fin ?_
    refine .next ?_
    refine .ret (?_)
    exact .ret3 (h1:=.tmp (t:=4) rfl) (h3:=.tmp (t:=6) rfl) ⟨_,⟨by rw [hlt];rfl,rfl⟩,Am.auto⟩
  ·rw [if_neg he] at hlt
   refine .sr (.assign ?_)
   refine .alloc z51 fun b5=>?_
   refine .assign (.z (.seq (.sr (.move ?_))))
   refine .eqNil ?_ ptr23
   refine .move ?_
   refine .gT ?_
   refine .move ?_
   refine .gT ?_
   refine .nilCheck ?_
   refine .gT ?_
   refine .fa ?_ fo129_0
   refine .gT ?_
   refine .ld ?_ sc124
   refine .gT ?_
   refine .eqNil ?_ ptr124
   refine .pickF ?_
   refine .z ?_
   refine .condF rfl rfl ?_
   refine .skip (.next (.sr (.move ?_)))
   refine .call (hc:=Tryz.call154) (sp:=fsParts hpl hpt) (h:=?_)
   rintro _ _ ⟨u,rfl,rfl⟩
   refine .fact (rowR_shape (el:=9) (size:=1) (v:=u) (k:=l.length) (xs:=svs l)) (fun ⟨A,cc,hu,hR,hc1,hc2,hlen⟩=>?_)
   subst hu
   refine .move ?_
   refine .extract ?_
   refine .extract ?_
   refine .assign (.assign (.z (.seq (.sr (.move ?_)))))
   refine .nei ?_
   refine .z ?_
   refine .condF rfl (congrArg Value.bool (by first|simp;done|simp;omega|omega)) ?_
   refine .skip (.next (.sr (.move (.move ?_))))
   refine .call (hc:=Tryz.call155) (sp:=fsWalk (f:=f) (s:=s) (a:=a) (c:=c) (mp:=mp) (b:=b) (ov:=ov) (dead:=dead) (p:=p) (T:=T) (F0:=F0) (W:=W) (op:=op) (l:=l) (R:=rowR 9 1 (.slice A l.length cc) l.length (svs l)) ho hT (.inl hR) rfl hl8) (h:=?_)
   rintro _ _ ⟨rfl,rfl⟩
   rw [hw]
   refine .move ?_
   refine .extract ?_
   refine .extract ?_
   refine .assign (.assign (.z (.seq (.sr (.move ?_)))))
   refine .nei ?_
   refine .z ?_
   refine .condT rfl (congrArg Value.bool (by first|simp;done|simp;omega|omega)) ?_
   refine .sr ?_
   refine .build (cs:=#[nI 0,nI 0]) ?_ (fun w=>by kernel_rfl)
   refine .move (.assign ?_)
   refine .stV ?_ agg51
   refine .assign (.z ?_)
   refine .ret (.thenRet (?_))
   exact .ret3 (h1:=.tmp (t:=4) rfl) (h3:=.tmp (t:=6) rfl) ⟨_,⟨by rw [hlt];rfl,rfl⟩,Am.auto⟩
theorem fsFileAt {f s a c mp:Nat} {b ov dead:Bool} {p:Pl} {T:FT} {F0:FM} {W:Nat} {op:Bool} {path:Bytes} (ho:PlOk p) (hT:TOk T) (hpl:path.length<=1000000):Spec Tryz.prog 106 #[.pointer (some ⟨f,0,none⟩),sv path] [pt f (fO c a s b ov dead mp),LD mp T,IN s a c p F0 (fmT T) W op] fun F v M=>v=.tuple #[nI (fileT T path).1,.agg #[nI (fileT T path).2.1,nI (fileT T path).2.2.1],nI (fileT T path).2.2.2]/\M=pt f (fO c a s b ov dead mp) :: LD mp T :: IN s a c p F0 (fmT T) W op :: F:=by
 refine Spec.intro Tryz.func106 rfl rfl fun B F=>?_
 simp only [Tryz.ntmps106,List.cons_append,List.nil_append,env0,Nat.reduceAdd]
 obtain ⟨i,k,z,e,hlt⟩:∃ i k z e,leadsT T path=(i,k,z,e):=⟨_,_,_,_,rfl⟩
 have hft:fileT T path=if e=0/\k≠1 then (0,0,0,6) else (i,k,z,e):=by unfold fileT;rw [hlt]
 by_cases he:e=0
 ·subst he
  by_cases hk:k=1
  ·rw [if_neg (fun h=>h.2 hk)] at hft
   refine .sr (.assign ?_)
   refine .alloc z51 fun b5=>?_
   refine .assign (.x (.move (.move ?_)))
   refine .call (hc:=Tryz.call77) (sp:=fsLeads (f:=f) (s:=s) (a:=a) (c:=c) (mp:=mp) (b:=b) (ov:=ov) (dead:=dead) (p:=p) (T:=T) (F0:=F0) (W:=W) (op:=op) (path:=path) ho hT hpl) (h:=?_)
   rintro _ _ ⟨rfl,rfl⟩
   rw [hlt]
   refine .move ?_
   refine .extract ?_
   refine .extract ?_
   refine .extract ?_
   refine .alloc z51 fun b8=>?_
   refine .assign ?_
   refine .stV ?_ agg51
   refine .assign (.z (.seq (.sr (.move ?_))))
   refine .eqi ?_
   refine .move ?_
   refine .cast (d:=19) (u:=.bool true) rfl (congrArg Value.bool (by first|simp;done|simp;omega|omega)) ?_
   refine .gT ?_
   refine .fa ?_ fo51_0
   refine .gT ?_
   refine .ld ?_ sc3
   refine .gT ?_
   refine .nei ?_
   refine .pickT ?_
   refine .z ?_
   refine .condF rfl (congrArg Value.bool (by first|simp;done|simp;omega|omega)) ?_
   refine .skip (.next (.seq ?_))
   refine .dr ([pt b8 (.cells #[nI k,nI z] 51 (0,0))]) [] 6 mixed .autoJ ?_
   refine .tk 0 rfl .move ?_
   refine .tk 1 rfl (.ldA agg51) ?_
   refine .tk 2 rfl .move ?_
   refine .tk 3 rfl .assign ?_
   refine .on 4 rfl fun hnp=>?_
   refine .stV ?_ agg51
   refine .nil (.wa hnp ?_)
   refine .tk 5 rfl .assign ?_
   refine .fin ?_
   refine .next ?_
   refine .ret (?_)
   exact .ret3 (h1:=.tmp (t:=4) rfl) (h3:=.tmp (t:=6) rfl) ⟨_,⟨by rw [hft];rfl,rfl⟩,Am.auto⟩
  ·rw [if_pos ⟨rfl,hk⟩] at hft
   refine .sr (.assign ?_)
   refine .alloc z51 fun b5=>?_
   refine .assign (.x (.move (.move ?_)))
   refine .call (hc:=Tryz.call77) (sp:=fsLeads (f:=f) (s:=s) (a:=a) (c:=c) (mp:=mp) (b:=b) (ov:=ov) (dead:=dead) (p:=p) (T:=T) (F0:=F0) (W:=W) (op:=op) (path:=path) ho hT hpl) (h:=?_)
   rintro _ _ ⟨rfl,rfl⟩
   rw [hlt]
   refine .move ?_
   refine .extract ?_
   refine .extract ?_
   refine .extract ?_
   refine .alloc z51 fun b8=>?_
   refine .assign ?_
   refine .stV ?_ agg51
   refine .assign (.z (.seq (.sr (.move ?_))))
   refine .eqi ?_
   refine .move ?_
   refine .cast (d:=19) (u:=.bool true) rfl (congrArg Value.bool (by first|simp;done|simp;omega|omega)) ?_
   refine .gT ?_
   refine .fa ?_ fo51_0
   refine .gT ?_
   refine .ld ?_ sc3
   refine .gT ?_
   refine .nei ?_
   refine .pickT ?_
   refine .z ?_
   refine .condT rfl (congrArg Value.bool (by first|simp;done|simp;omega|omega)) ?_
   refine .sr ?_
   refine .build (cs:=#[nI 0,nI 0]) ?_ (fun w=>by kernel_rfl)
   refine .assign ?_
   refine .stV ?_ agg51
   refine .assign (.z ?_)
   refine .ret (.thenRet (?_))
   exact .ret3 (h1:=.tmp (t:=4) rfl) (h3:=.tmp (t:=6) rfl) ⟨_,⟨by rw [hft];rfl,rfl⟩,Am.auto⟩
 ·rw [if_neg (fun h=>he h.1)] at hft
  refine .sr (.assign ?_)
  refine .alloc z51 fun b5=>?_
  refine .assign (.x (.move (.move ?_)))
  refine .call (hc:=Tryz.call77) (sp:=fsLeads (f:=f) (s:=s) (a:=a) (c:=c) (mp:=mp) (b:=b) (ov:=ov) (dead:=dead) (p:=p) (T:=T) (F0:=F0) (W:=W) (op:=op) (path:=path) ho hT hpl) (h:=?_)
  rintro _ _ ⟨rfl,rfl⟩
  rw [hlt]
  refine .move ?_
  refine .extract ?_
  refine .extract ?_
  refine .extract ?_
  refine .alloc z51 fun b8=>?_
  refine .assign ?_
  refine .stV ?_ agg51
  refine .assign (.z (.seq (.sr (.move ?_))))
  refine .eqi ?_
  refine .move ?_
  refine .cast (d:=19) (u:=.bool false) rfl (congrArg Value.bool (by first|simp;done|simp;omega|omega)) ?_
  refine .gF ?_
  refine .gF ?_
  refine .gF ?_
  refine .pickF ?_
  refine .z ?_
  refine .condF rfl rfl ?_
  refine .skip (.next (.seq ?_))
  refine .dr ([pt b8 (.cells #[nI k,nI z] 51 (0,0))]) [] 6 mixed .autoJ ?_
  refine .tk 0 rfl .move ?_
  refine .tk 1 rfl (.ldA agg51) ?_
  refine .tk 2 rfl .move ?_
  refine .tk 3 rfl .assign ?_
  refine .on 4 rfl fun hnp=>?_
  refine .stV ?_ agg51
  refine .nil (.wa hnp ?_)
  refine .tk 5 rfl .assign ?_
  refine .fin ?_
  refine .next ?_
  refine .ret (?_)
  exact .ret3 (h1:=.tmp (t:=4) rfl) (h3:=.tmp (t:=6) rfl) ⟨_,⟨by rw [hft];rfl,rfl⟩,Am.auto⟩
theorem fsParent {f s a c mp:Nat} {b ov dead:Bool} {p:Pl} {T:FT} {F0:FM} {W:Nat} {op:Bool} {path:Bytes} (ho:PlOk p) (hT:TOk T) (hpl:path.length<=1000000):Spec Tryz.prog 109 #[.pointer (some ⟨f,0,none⟩),sv path] [pt f (fO c a s b ov dead mp),LD mp T,IN s a c p F0 (fmT T) W op] fun F v M=>v=.tuple #[nI (parentT T path).1,sv (parentT T path).2.1,nI (parentT T path).2.2]/\M=pt f (fO c a s b ov dead mp) :: LD mp T :: IN s a c p F0 (fmT T) W op :: F:=by
 refine Spec.intro Tryz.func109 rfl rfl fun B F=>?_
 simp only [Tryz.ntmps109,List.cons_append,List.nil_append,env0,Nat.reduceAdd]
 cases hpt:partsT path with
 | none =>
  have hlt:parentT T path=(0,[],1):=by unfold parentT;rw [hpt]
  refine .sr (.assign (.assign (.assign (.x (.move ?_)))))
  refine .call (hc:=Tryz.call154) (sp:=fsPartsNo hpl hpt) (h:=?_)
  rintro _ _ ⟨rfl,rfl⟩
  refine .move ?_
  refine .extract ?_
  refine .extract ?_
  refine .assign (.assign (.z (.seq (.sr (.move ?_)))))
  refine .nei ?_
  refine .z ?_
  refine .condT rfl (congrArg Value.bool (by first|simp;done|simp;omega|omega)) ?_
  refine .sr (.move (.assign (.assign (.assign (.z ?_)))))
  refine .ret (.thenRet (?_))
  exact .ret3 (h1:=.tmp (t:=4) rfl) (h2:=.tmp (t:=5) rfl) (h3:=.tmp (t:=6) rfl) ⟨_,⟨by rw [hlt];rfl,rfl⟩,Am.auto⟩
 | some l =>
  have hl8:=partsT_len hpt
  by_cases hl0:l=[]
  ·have hl00:l.length=0:=by rw [hl0];rfl
   have hlt:parentT T path=(0,[],1):=by unfold parentT;simp only [hpt];rw [if_pos hl0]
   refine .sr (.assign (.assign (.assign (.x (.move ?_)))))
   refine .call (hc:=Tryz.call154) (sp:=fsParts hpl hpt) (h:=?_)
   rintro _ _ ⟨u,rfl,rfl⟩
   refine .fact (rowR_shape (el:=9) (size:=1) (v:=u) (k:=l.length) (xs:=svs l)) (fun ⟨A,cc,hu,hR,hc1,hc2,hlen⟩=>?_)
   subst hu
   refine .move ?_
   refine .extract ?_
   refine .extract ?_
   refine .assign (.assign (.z (.seq (.sr (.move ?_)))))
   refine .nei ?_
   refine .z ?_
   refine .condF rfl (congrArg Value.bool (by first|simp;done|simp;omega|omega)) ?_
   refine .skip (.next (.seq (.sr (.move ?_))))
   refine .lenS ?_ sl92
   refine .eqi ?_
   refine .z ?_
   refine .condT rfl (congrArg Value.bool (by first|simp;done|simp;omega|omega)) ?_
   refine .sr (.assign (.assign (.assign (.z ?_))))
   refine .ret (.thenRet (?_))
   exact .ret3 (h1:=.tmp (t:=4) rfl) (h2:=.tmp (t:=5) rfl) (h3:=.tmp (t:=6) rfl) ⟨_,⟨by rw [hlt];rfl,rfl⟩,Am.auto⟩
  ·obtain ⟨N,hN⟩:∃ N,l.length=N+1:=⟨l.length - 1,by have:=List.length_pos_iff.2 hl0;omega⟩
   have hdl:l.dropLast=l.take N:=by rw [List.dropLast_eq_take,hN];rfl
   have hgl:l.getLastD []=l[N]'(by omega):=by
    have e1:l[l.length - 1]?=some (l[N]'(by omega)):=by rw [show l.length - 1=N from by omega];exact List.getElem?_eq_getElem _
    rw [List.getLastD_eq_getLast?,List.getLast?_eq_getElem?,e1];rfl
   obtain ⟨d,e,hw⟩:∃ d e,walkT T 0 (l.take N)=(d,e):=⟨_,_,rfl⟩
   have hlt:parentT T path=if e=0 then (match T d with | some (.dir _)=>(d,l[N]'(by omega),0) | _=>(0,[],6)) else (0,[],e):=by unfold parentT;simp only [hpt];rw [if_neg hl0,hdl,hgl,hw];first | done | rfl
   have htl:(svs l).take N=svs (l.take N):=List.map_take.symm
   by_cases he:e=0
   ·subst he
    rw [if_pos rfl] at hlt
    cases hTi:T d with
    | none =>
     simp only [hTi] at hlt
     refine .sr (.assign (.assign (.assign (.x (.move ?_)))))
     refine .call (hc:=Tryz.call154) (sp:=fsParts hpl hpt) (h:=?_)
     rintro _ _ ⟨u,rfl,rfl⟩
     refine .fact (rowR_shape (el:=9) (size:=1) (v:=u) (k:=l.length) (xs:=svs l)) (fun ⟨A,cc,hu,hR,hc1,hc2,hlen⟩=>?_)
     subst hu
     rcases A with _ | ⟨ab,ao,asp⟩
     ·exact absurd hR (fun h=>by have h2:svs l=[]:=h;have hll:=svs_length l;rw [h2] at hll;simp at hll;omega)
     have hsp:asp=none:=hR.1
     subst hsp
     refine .move ?_
     refine .extract ?_
     refine .extract ?_
     refine .assign (.assign (.z (.seq (.sr (.move ?_)))))
     refine .nei ?_
     refine .z ?_
     refine .condF rfl (congrArg Value.bool (by first|simp;done|simp;omega|omega)) ?_
     refine .skip (.next (.seq (.sr (.move ?_))))
     refine .lenS ?_ sl92
     refine .eqi ?_
     refine .z ?_
     refine .condF rfl (congrArg Value.bool (by first|simp;done|simp;omega|omega)) ?_
     refine .skip (.next (.sr (.move ?_)))
     refine .lenS ?_ sl92
     refine .sub ?_
     refine .cast (d:=24) (u:=.int .i64 (N:Int)) rfl (congrArg (Value.int .i64) (by omega)) ?_
     refine .assign (.z (.seq (.sr (.move (.move (.move ?_))))))
     refine .slcH ?_ so92
     refine .call (hc:=Tryz.call155) (sp:=fsWalk (f:=f) (s:=s) (a:=a) (c:=c) (mp:=mp) (b:=b) (ov:=ov) (dead:=dead) (p:=p) (T:=T) (F0:=F0) (W:=W) (op:=op) (l:=l.take N) (R:=rowR 9 1 (.slice (some ⟨ab,ao,none⟩) l.length cc) l.length (svs l)) ho hT (.inl (htl ▸ hR.take N)) (by rw [List.length_take];omega) (by omega)) (h:=?_)
     rintro _ _ ⟨rfl,rfl⟩
     rw [hw]
     refine .move ?_
     refine .extract ?_
     refine .extract ?_
     refine .assign (.assign (.x (.move ?_)))
     refine .nei ?_
     refine .z ?_
     refine .condF rfl (congrArg Value.bool (by first|simp;done|simp;omega|omega)) ?_
     refine .skip (.next (.seq (.sr (.move ?_))))
     refine .nilCheck ?_
     refine .fa ?_ fo129_2
     refine .ld ?_ sc126
     refine .move ?_
     refine .call (hc:=Tryz.call156) (sp:=nStatTNo (s:=s) (a:=a) (c:=c) (p:=p) (F0:=F0) (T:=T) (W:=W) (op:=op) (i:=d) ho hTi) (h:=?_)
     rintro _ _ ⟨rfl,rfl⟩
     refine .move ?_
     refine .extract ?_
     refine .extract ?_
     refine .alloc z51 fun b9=>?_
     refine .stV ?_ agg51
     refine .assign (.x (.move ?_))
     refine .nei ?_
     refine .move ?_
     refine .cast (d:=47) (u:=.bool true) rfl (congrArg Value.bool (by first|simp;done|simp;omega|omega)) ?_
     refine .gF ?_
     refine .gF ?_
     refine .gF ?_
     refine .pickT ?_
     refine .z ?_
     refine .condT rfl rfl ?_
     refine .sr (.assign (.assign (.assign (.z ?_))))
     refine .ret (.thenRet (?_))
     exact .ret3 (h1:=.tmp (t:=4) rfl) (h2:=.tmp (t:=5) rfl) (h3:=.tmp (t:=6) rfl) ⟨_,⟨by rw [hlt];rfl,rfl⟩,Am.auto⟩
    | some x =>
     cases x with
     | file fb =>
      simp only [hTi] at hlt
      refine .sr (.assign (.assign (.assign (.x (.move ?_)))))
      refine .call (hc:=Tryz.call154) (sp:=fsParts hpl hpt) (h:=?_)
      rintro _ _ ⟨u,rfl,rfl⟩
      refine .fact (rowR_shape (el:=9) (size:=1) (v:=u) (k:=l.length) (xs:=svs l)) (fun ⟨A,cc,hu,hR,hc1,hc2,hlen⟩=>?_)
      subst hu
      rcases A with _ | ⟨ab,ao,asp⟩
      ·exact absurd hR (fun h=>by have h2:svs l=[]:=h;have hll:=svs_length l;rw [h2] at hll;simp at hll;omega)
      have hsp:asp=none:=hR.1
      subst hsp
      refine .move ?_
      refine .extract ?_
      refine .extract ?_
      refine .assign (.assign (.z (.seq (.sr (.move ?_)))))
      refine .nei ?_
      refine .z ?_
      refine .condF rfl (congrArg Value.bool (by first|simp;done|simp;omega|omega)) ?_
      refine .skip (.next (.seq (.sr (.move ?_))))
      refine .lenS ?_ sl92
      refine .eqi ?_
      refine .z ?_
      refine .condF rfl (congrArg Value.bool (by first|simp;done|simp;omega|omega)) ?_
      refine .skip (.next (.sr (.move ?_)))
      refine .lenS ?_ sl92
      refine .sub ?_
      refine .cast (d:=24) (u:=.int .i64 (N:Int)) rfl (congrArg (Value.int .i64) (by omega)) ?_
      refine .assign (.z (.seq (.sr (.move (.move (.move ?_))))))
      refine .slcH ?_ so92
      refine .call (hc:=Tryz.call155) (sp:=fsWalk (f:=f) (s:=s) (a:=a) (c:=c) (mp:=mp) (b:=b) (ov:=ov) (dead:=dead) (p:=p) (T:=T) (F0:=F0) (W:=W) (op:=op) (l:=l.take N) (R:=rowR 9 1 (.slice (some ⟨ab,ao,none⟩) l.length cc) l.length (svs l)) ho hT (.inl (htl ▸ hR.take N)) (by rw [List.length_take];omega) (by omega)) (h:=?_)
      rintro _ _ ⟨rfl,rfl⟩
      rw [hw]
      refine .move ?_
      refine .extract ?_
      refine .extract ?_
      refine .assign (.assign (.x (.move ?_)))
      refine .nei ?_
      refine .z ?_
      refine .condF rfl (congrArg Value.bool (by first|simp;done|simp;omega|omega)) ?_
      refine .skip (.next (.seq (.sr (.move ?_))))
      refine .nilCheck ?_
      refine .fa ?_ fo129_2
      refine .ld ?_ sc126
      refine .move ?_
      refine .call (hc:=Tryz.call156) (sp:=nStatT (s:=s) (a:=a) (c:=c) (p:=p) (F0:=F0) (T:=T) (W:=W) (op:=op) (i:=d) ho hTi) (h:=?_)
      rintro _ _ ⟨rfl,rfl⟩
      simp only [NodeT.kind,NodeT.size]
      refine .move ?_
      refine .extract ?_
      refine .extract ?_
      refine .alloc z51 fun b9=>?_
      refine .stV ?_ agg51
      refine .assign (.x (.move ?_))
      refine .nei ?_
      refine .move ?_
      refine .cast (d:=47) (u:=.bool false) rfl (congrArg Value.bool (by first|simp;done|simp;omega|omega)) ?_
      refine .gT ?_
      refine .fa ?_ fo51_0
      refine .gT ?_
      refine .ld ?_ sc3
      refine .gT ?_
      refine .nei ?_
      refine .pickF ?_
      refine .z ?_
      refine .condT rfl (congrArg Value.bool (by first|simp;done|simp;omega|omega)) ?_
      refine .sr (.assign (.assign (.assign (.z ?_))))
      refine .ret (.thenRet (?_))
      exact .ret3 (h1:=.tmp (t:=4) rfl) (h2:=.tmp (t:=5) rfl) (h3:=.tmp (t:=6) rfl) ⟨_,⟨by rw [hlt];rfl,rfl⟩,Am.auto⟩
     | dir sl =>
      simp only [hTi] at hlt
      have hgk:(svs l)[((N:Nat):Int).toNat]?=some (sv (l[N]'(by omega))):=svs_get (by omega)
      refine .sr (.assign (.assign (.assign (.x (.move ?_)))))
      refine .call (hc:=Tryz.call154) (sp:=fsParts hpl hpt) (h:=?_)
      rintro _ _ ⟨u,rfl,rfl⟩
      refine .fact (rowR_shape (el:=9) (size:=1) (v:=u) (k:=l.length) (xs:=svs l)) (fun ⟨A,cc,hu,hR,hc1,hc2,hlen⟩=>?_)
      subst hu
      rcases A with _ | ⟨ab,ao,asp⟩
      ·exact absurd hR (fun h=>by have h2:svs l=[]:=h;have hll:=svs_length l;rw [h2] at hll;simp at hll;omega)
      have hsp:asp=none:=hR.1
      subst hsp
      refine .move ?_
      refine .extract ?_
      refine .extract ?_
      refine .assign (.assign (.z (.seq (.sr (.move ?_)))))
      refine .nei ?_
      refine .z ?_
      refine .condF rfl (congrArg Value.bool (by first|simp;done|simp;omega|omega)) ?_
      refine .skip (.next (.seq (.sr (.move ?_))))
      refine .lenS ?_ sl92
      refine .eqi ?_
      refine .z ?_
      refine .condF rfl (congrArg Value.bool (by first|simp;done|simp;omega|omega)) ?_
      refine .skip (.next (.sr (.move ?_)))
      refine .lenS ?_ sl92
      refine .sub ?_
      refine .cast (d:=24) (u:=.int .i64 (N:Int)) rfl (congrArg (Value.int .i64) (by omega)) ?_
      refine .assign (.z (.seq (.sr (.move (.move (.move ?_))))))
      refine .slcH ?_ so92
      refine .call (hc:=Tryz.call155) (sp:=fsWalk (f:=f) (s:=s) (a:=a) (c:=c) (mp:=mp) (b:=b) (ov:=ov) (dead:=dead) (p:=p) (T:=T) (F0:=F0) (W:=W) (op:=op) (l:=l.take N) (R:=rowR 9 1 (.slice (some ⟨ab,ao,none⟩) l.length cc) l.length (svs l)) ho hT (.inl (htl ▸ hR.take N)) (by rw [List.length_take];omega) (by omega)) (h:=?_)
      rintro _ _ ⟨rfl,rfl⟩
      rw [hw]
      refine .move ?_
      refine .extract ?_
      refine .extract ?_
      refine .assign (.assign (.x (.move ?_)))
      refine .nei ?_
      refine .z ?_
      refine .condF rfl (congrArg Value.bool (by first|simp;done|simp;omega|omega)) ?_
      refine .skip (.next (.seq (.sr (.move ?_))))
      refine .nilCheck ?_
      refine .fa ?_ fo129_2
      refine .ld ?_ sc126
      refine .move ?_
      refine .call (hc:=Tryz.call156) (sp:=nStatT (s:=s) (a:=a) (c:=c) (p:=p) (F0:=F0) (T:=T) (W:=W) (op:=op) (i:=d) ho hTi) (h:=?_)
      rintro _ _ ⟨rfl,rfl⟩
      simp only [NodeT.kind,NodeT.size]
      refine .move ?_
      refine .extract ?_
      refine .extract ?_
      refine .alloc z51 fun b9=>?_
      refine .stV ?_ agg51
      refine .assign (.x (.move ?_))
      refine .nei ?_
      refine .move ?_
      refine .cast (d:=47) (u:=.bool false) rfl (congrArg Value.bool (by first|simp;done|simp;omega|omega)) ?_
      refine .gT ?_
      refine .fa ?_ fo51_0
      refine .gT ?_
      refine .ld ?_ sc3
      refine .gT ?_
      refine .nei ?_
      refine .pickF ?_
      refine .z ?_
      refine .condF rfl (congrArg Value.bool (by first|simp;done|simp;omega|omega)) ?_
      refine .skip (.next (.seq ?_))
      refine .dr ([rowR 9 1 (.slice (some ⟨ab,ao,none⟩) l.length cc) l.length (svs l)]) [] 8 mixed .autoJ ?_
      refine .tk 0 rfl .move ?_
      refine .tk 1 rfl .move ?_
      refine .tk 2 rfl .move ?_
      refine .tk 3 rfl (.idx1 so92) ?_
      refine .tk 4 rfl (Qt.ldR (i:=((N:Nat):Int).toNat) sc9 hR hgk) ?_
      refine .tk 5 rfl .assign ?_
      refine .tk 6 rfl .assign ?_
      refine .tk 7 rfl .assign ?_
      refine .fin ?_
      refine .next ?_
      refine .ret (?_)
      exact .ret3 (h1:=.tmp (t:=4) rfl) (h2:=.tmp (t:=5) rfl) (h3:=.tmp (t:=6) rfl) ⟨_,⟨by rw [hlt];rfl,rfl⟩,Am.auto⟩
   ·rw [if_neg he] at hlt
    refine .sr (.assign (.assign (.assign (.x (.move ?_)))))
    refine .call (hc:=Tryz.call154) (sp:=fsParts hpl hpt) (h:=?_)
    rintro _ _ ⟨u,rfl,rfl⟩
    refine .fact (rowR_shape (el:=9) (size:=1) (v:=u) (k:=l.length) (xs:=svs l)) (fun ⟨A,cc,hu,hR,hc1,hc2,hlen⟩=>?_)
    subst hu
    rcases A with _ | ⟨ab,ao,asp⟩
    ·exact absurd hR (fun h=>by have h2:svs l=[]:=h;have hll:=svs_length l;rw [h2] at hll;simp at hll;omega)
    have hsp:asp=none:=hR.1
    subst hsp
    refine .move ?_
    refine .extract ?_
    refine .extract ?_
    refine .assign (.assign (.z (.seq (.sr (.move ?_)))))
    refine .nei ?_
    refine .z ?_
    refine .condF rfl (congrArg Value.bool (by first|simp;done|simp;omega|omega)) ?_
    refine .skip (.next (.seq (.sr (.move ?_))))
    refine .lenS ?_ sl92
    refine .eqi ?_
    refine .z ?_
    refine .condF rfl (congrArg Value.bool (by first|simp;done|simp;omega|omega)) ?_
    refine .skip (.next (.sr (.move ?_)))
    refine .lenS ?_ sl92
    refine .sub ?_
    refine .cast (d:=24) (u:=.int .i64 (N:Int)) rfl (congrArg (Value.int .i64) (by omega)) ?_
    refine .assign (.z (.seq (.sr (.move (.move (.move ?_))))))
    refine .slcH ?_ so92
    refine .call (hc:=Tryz.call155) (sp:=fsWalk (f:=f) (s:=s) (a:=a) (c:=c) (mp:=mp) (b:=b) (ov:=ov) (dead:=dead) (p:=p) (T:=T) (F0:=F0) (W:=W) (op:=op) (l:=l.take N) (R:=rowR 9 1 (.slice (some ⟨ab,ao,none⟩) l.length cc) l.length (svs l)) ho hT (.inl (htl ▸ hR.take N)) (by rw [List.length_take];omega) (by omega)) (h:=?_)
    rintro _ _ ⟨rfl,rfl⟩
    rw [hw]
    refine .move ?_
    refine .extract ?_
    refine .extract ?_
    refine .assign (.assign (.x (.move ?_)))
    refine .nei ?_
    refine .z ?_
    refine .condT rfl (congrArg Value.bool (by first|simp;done|simp;omega|omega)) ?_
    refine .sr (.move (.assign (.assign (.assign (.z ?_)))))
    refine .ret (.thenRet (?_))
    exact .ret3 (h1:=.tmp (t:=4) rfl) (h2:=.tmp (t:=5) rfl) (h3:=.tmp (t:=6) rfl) ⟨_,⟨by rw [hlt];rfl,rfl⟩,Am.auto⟩
theorem fo129_5:fieldOk Tryz.prog 129 5 5=true:=by kernel_rfl
theorem fo129_3:fieldOk Tryz.prog 129 3 3=true:=by kernel_rfl
def bun (Ls:List HP):HP:=fun h=>∃ _:Unit,True/\star Ls h
theorem bun.opens (Ls:List HP):Opens (bun Ls) (fun _:Unit=>True) (fun _=>Ls):=⟨fun h hh=>hh,fun x hp h hh=>⟨x,hp,hh⟩⟩
attribute [irreducible] bun
theorem fsGone {f s a c mp:Nat} {b ov dead:Bool}:Spec Tryz.prog 168 #[.pointer (some ⟨f,0,none⟩)] [pt f (fO c a s b ov dead mp)] fun F v M=>v=.bool dead/\M=pt f (fO c a s b ov dead mp) :: F:=by
 refine Spec.intro Tryz.func168 rfl rfl fun B F=>?_
 simp only [Tryz.ntmps168,List.cons_append,List.nil_append,env0,Nat.reduceAdd]
 refine .sr (.assign (.x (.move ?_)))
 refine .eqNil ?_ ptr23
 refine .move ?_
 refine .gT ?_
 refine .move ?_
 refine .gT ?_
 refine .nilCheck ?_
 refine .gT ?_
 refine .fa ?_ fo129_0
 refine .gT ?_
 refine .ld ?_ sc124
 refine .gT ?_
 refine .eqNil ?_ ptr124
 refine .pickF ?_
 refine .move ?_
 refine .gT ?_
 refine .move ?_
 refine .gT ?_
 refine .nilCheck ?_
 refine .gT ?_
 refine .fa ?_ fo129_5
 refine .gT ?_
 refine .ld ?_ sc4
 refine .pickF ?_
 refine .assign (.z ?_)
 refine .ret (?_)
 exact .ret1 (h1:=.tmp (t:=2) rfl) ⟨_,⟨rfl,rfl⟩,Am.auto⟩
theorem fsForget {f s a c mp:Nat} {b ov dead:Bool} {T S:FT}:Spec Tryz.prog 169 #[.pointer (some ⟨f,0,none⟩)] [pt f (fO c a s b ov dead mp),LD mp S] fun F v M=>v=.tuple #[]/\M=pt f (fO c a s b ov dead mp) :: LD mp T :: F:=by
 refine Spec.intro Tryz.func169 rfl rfl fun B F=>?_
 simp only [Tryz.ntmps169,List.cons_append,List.nil_append,env0,Nat.reduceAdd]
 refine .openR (LD.opens mp S) fun y hy=>?_
 obtain ⟨es,cl,kv⟩:=y
 simp only [List.cons_append,List.nil_append]
 refine .region (.move ?_)
 refine .nilCheck ?_
 refine .fa ?_ fo129_6
 refine .ld ?_ sc127
 refine .clearM ?_ mp127
 refine .nil ?_
 refine .shutR (LD.opens mp T) (#[],cl,[]) (LDP.empty T cl) ?_
 exact .ret0 ⟨_,⟨rfl,rfl⟩,Am.auto⟩
theorem fsForgetD {f s a c mp:Nat} {b ov dead:Bool} {T S:FT}:SpecD Tryz.prog 169 #[.pointer (some ⟨f,0,none⟩)] [pt f (fO c a s b ov dead mp),LD mp S] fun F v M=>v=.tuple #[]/\M=pt f (fO c a s b ov dead mp) :: LD mp T :: F:=by
 refine SpecD.intro Tryz.func169 rfl rfl fun B F=>?_
 simp only [Tryz.ntmps169,List.cons_append,List.nil_append,env0,Nat.reduceAdd]
 refine .openR (LD.opens mp S) fun y hy=>?_
 obtain ⟨es,cl,kv⟩:=y
 simp only [List.cons_append,List.nil_append]
 refine .region (.move ?_)
 refine .nilCheck ?_
 refine .fa ?_ fo129_6
 refine .ld ?_ sc127
 refine .clearM ?_ mp127
 refine .nil ?_
 refine .shutR (LD.opens mp T) (#[],cl,[]) (LDP.empty T cl) ?_
 exact .ret0 ⟨_,⟨rfl,rfl⟩,Am.auto⟩
theorem fsEnd {f s a c mp:Nat} {b ov dead:Bool} {T S:FT} {p:Pl} {F0 Fm:FM} {W:Nat} (ho:PlOk p):Spec Tryz.prog 171 #[.pointer (some ⟨f,0,none⟩)] [pt f (fO c a s b ov dead mp),LD mp S,IN s a c p F0 Fm W true] fun F v M=>v=okV/\M=pt f (fO c a s b ov dead mp) :: LD mp T :: IN s a c p Fm Fm 0 false :: F:=by
 refine Spec.intro Tryz.func171 rfl rfl fun B F=>?_
 simp only [Tryz.ntmps171,List.cons_append,List.nil_append,env0,Nat.reduceAdd]
 refine .sr (.assign (.x (.move ?_)))
 refine .call (hc:=Tryz.call169) (sp:=fsForget (f:=f) (s:=s) (a:=a) (c:=c) (mp:=mp) (b:=b) (ov:=ov) (dead:=dead) (S:=S) (T:=T)) (h:=?_)
 rintro _ _ ⟨rfl,rfl⟩
 refine .x (.move ?_)
 refine .nilCheck ?_
 refine .fa ?_ fo129_0
 refine .ld ?_ sc124
 refine .call (hc:=Tryz.call139) (sp:=nCommit (s:=s) (a:=a) (c:=c) (p:=p) (F0:=F0) (F:=Fm) (W:=W) ho) (h:=?_)
 rintro _ _ ⟨rfl,rfl⟩
 refine .assign (.z (.seq (.sr (.move ?_))))
 refine .eqi ?_
 refine .z ?_
 refine .condF rfl (congrArg Value.bool (by first|simp;done|simp;omega|omega)) ?_
 refine .skip (.next (.sr (.move (.assign (.z ?_)))))
 refine .ret (?_)
 exact .ret1 (h1:=.tmp (t:=2) rfl) ⟨_,⟨rfl,rfl⟩,Am.auto⟩
theorem fsChange {f s a c mp:Nat} {p:Pl} {T S:FT} {F1:FM} {W:Nat} {R R':HP} {k:FuncId} {cap:Array Value} (ho:PlOk p) (hc:∀ args w,(callFunc k args).run Tryz.prog w=.ok (.enter k args) w)
  (sp:Spec Tryz.prog k cap [pt f (fO c a s false false false mp),LD mp S,IN s a c p (fmT S) (fmT S) 0 true,R] fun F v M=>v=okV/\M=pt f (fO c a s false false false mp) :: LD mp S :: IN s a c p (fmT S) F1 W true :: R' :: F):Spec Tryz.prog 92 #[.pointer (some ⟨f,0,none⟩),.func (.func k) #[] cap] [pt f (fO c a s false false false mp),LD mp S,IN s a c p (fmT S) (fmT S) 0 false,R] fun F v M=>v=okV/\M=pt f (fO c a s false false false mp) :: LD mp T :: IN s a c p F1 F1 0 false :: R' :: F:=by
 refine Spec.introD Tryz.func92 rfl rfl fun B F=>?_
 simp only [Tryz.ntmps92,List.cons_append,List.nil_append,env0,Nat.reduceAdd]
 have sp':=sp
 rw [show cap=(([]:List Value)).toArray++cap from by simp] at sp'
 refine .sr (.assign (.z (.seq (.sr (.move ?_)))))
 refine .call (hc:=Tryz.call168) (sp:=fsGone (f:=f) (s:=s) (a:=a) (c:=c) (mp:=mp) (b:=false) (ov:=false) (dead:=false)) (h:=?_)
 rintro _ _ ⟨rfl,rfl⟩
 refine .z ?_
 refine .condF rfl rfl ?_
 refine .skip (.next (.sr (.move ?_)))
 refine .call (hc:=Tryz.call169) (sp:=fsForget (f:=f) (s:=s) (a:=a) (c:=c) (mp:=mp) (b:=false) (ov:=false) (dead:=false) (S:=S) (T:=S)) (h:=?_)
 rintro _ _ ⟨rfl,rfl⟩
 refine .x (.move ?_)
 refine .defer ?_
 refine .z (.seq (.sr (.move ?_)))
 refine .nilCheck ?_
 refine .fa ?_ fo129_3
 refine .ld ?_ sc4
 refine .not ?_
 refine .z ?_
 refine .condT rfl rfl ?_
 refine .sr (.move ?_)
 refine .nilCheck ?_
 refine .fa ?_ fo129_0
 refine .ld ?_ sc124
 refine .call (hc:=Tryz.call133) (sp:=nBegin (s:=s) (a:=a) (c:=c) (p:=p) (F0:=fmT S) (F:=fmT S) (W:=0)) (h:=?_)
 rintro _ _ ⟨rfl,rfl⟩
 refine .z (.seq (.sr (.move ?_)))
 refine .callV (hc:=hc) (sp:=sp') (h:=?_)
 rintro _ _ ⟨rfl,rfl⟩
 refine .assign (.x (.move ?_))
 refine .nei ?_
 refine .z ?_
 refine .condF rfl (congrArg Value.bool (by first|simp;done|simp;omega|omega)) ?_
 refine .skip (.next (.sr (.move ?_)))
 refine .call (hc:=Tryz.call171) (sp:=fsEnd (f:=f) (s:=s) (a:=a) (c:=c) (mp:=mp) (b:=false) (ov:=false) (dead:=false) (p:=p) (S:=S) (T:=S) (F0:=fmT S) (Fm:=F1) (W:=W) ho) (h:=?_)
 rintro _ _ ⟨rfl,rfl⟩
 refine .assign (.z ?_)
 refine .ret (.thenRet (?_))
 refine .retD1 (t:=4) (hc:=Tryz.call169) (sp:=fsForgetD (f:=f) (s:=s) (a:=a) (c:=c) (mp:=mp) (b:=false) (ov:=false) (dead:=false) (S:=S) (T:=T)) (fun v' M' h=>?_)
 obtain ⟨_,rfl⟩:=h
 exact ⟨_,⟨rfl,rfl⟩,Am.auto⟩
theorem fsChangeE {f s a c mp:Nat} {p:Pl} {T S:FT} {F1:FM} {W:Nat} {R R':HP} {k:FuncId} {cap:Array Value} {e:Nat} (he:e≠0) (ho:PlOk p) (hc:∀ args w,(callFunc k args).run Tryz.prog w=.ok (.enter k args) w)
  (sp:Spec Tryz.prog k cap [pt f (fO c a s false false false mp),LD mp S,IN s a c p (fmT S) (fmT S) 0 true,R] fun F v M=>v=nI e/\M=pt f (fO c a s false false false mp) :: LD mp S :: IN s a c p (fmT S) F1 W true :: R' :: F):Spec Tryz.prog 92 #[.pointer (some ⟨f,0,none⟩),.func (.func k) #[] cap] [pt f (fO c a s false false false mp),LD mp S,IN s a c p (fmT S) (fmT S) 0 false,R] fun F v M=>v=nI e/\M=pt f (fO c a s false false false mp) :: LD mp T :: IN s a c p (fmT S) (fmT S) 0 false :: R' :: F:=by
 refine Spec.introD Tryz.func92 rfl rfl fun B F=>?_
 simp only [Tryz.ntmps92,List.cons_append,List.nil_append,env0,Nat.reduceAdd]
 have sp':=sp
 rw [show cap=(([]:List Value)).toArray++cap from by simp] at sp'
 refine .sr (.assign (.z (.seq (.sr (.move ?_)))))
 refine .call (hc:=Tryz.call168) (sp:=fsGone (f:=f) (s:=s) (a:=a) (c:=c) (mp:=mp) (b:=false) (ov:=false) (dead:=false)) (h:=?_)
 rintro _ _ ⟨rfl,rfl⟩
 refine .z ?_
 refine .condF rfl rfl ?_
 refine .skip (.next (.sr (.move ?_)))
 refine .call (hc:=Tryz.call169) (sp:=fsForget (f:=f) (s:=s) (a:=a) (c:=c) (mp:=mp) (b:=false) (ov:=false) (dead:=false) (S:=S) (T:=S)) (h:=?_)
 rintro _ _ ⟨rfl,rfl⟩
 refine .x (.move ?_)
 refine .defer ?_
 refine .z (.seq (.sr (.move ?_)))
 refine .nilCheck ?_
 refine .fa ?_ fo129_3
 refine .ld ?_ sc4
 refine .not ?_
 refine .z ?_
 refine .condT rfl rfl ?_
 refine .sr (.move ?_)
 refine .nilCheck ?_
 refine .fa ?_ fo129_0
 refine .ld ?_ sc124
 refine .call (hc:=Tryz.call133) (sp:=nBegin (s:=s) (a:=a) (c:=c) (p:=p) (F0:=fmT S) (F:=fmT S) (W:=0)) (h:=?_)
 rintro _ _ ⟨rfl,rfl⟩
 refine .z (.seq (.sr (.move ?_)))
 refine .callV (hc:=hc) (sp:=sp') (h:=?_)
 rintro _ _ ⟨rfl,rfl⟩
 refine .assign (.x (.move ?_))
 refine .nei ?_
 refine .z ?_
 refine .condT rfl (congrArg Value.bool (by first|simp;done|simp;omega|omega)) ?_
 refine .sr (.move ?_)
 refine .nilCheck ?_
 refine .fa ?_ fo129_0
 refine .ld ?_ sc124
 refine .call (hc:=Tryz.call170) (sp:=nAbort (s:=s) (a:=a) (c:=c) (p:=p) (F0:=fmT S) (F:=F1) (W:=W)) (h:=?_)
 rintro _ _ ⟨rfl,rfl⟩
 refine .x (.move (.assign (.z ?_)))
 refine .ret (.thenRet (.thenRet (?_)))
 refine .retD1 (t:=4) (hc:=Tryz.call169) (sp:=fsForgetD (f:=f) (s:=s) (a:=a) (c:=c) (mp:=mp) (b:=false) (ov:=false) (dead:=false) (S:=S) (T:=T)) (fun v' M' h=>?_)
 obtain ⟨_,rfl⟩:=h
 exact ⟨_,⟨rfl,rfl⟩,Am.auto⟩
end Go.Proofs.YtdmjkjeoamiedaaGreatDoor
end
