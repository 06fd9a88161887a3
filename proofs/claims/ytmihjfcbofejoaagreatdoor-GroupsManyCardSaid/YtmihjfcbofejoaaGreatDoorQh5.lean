/- A part of the proof of iv: texts of this work put together. -/
import Derived.Test.YtmihjfcbofejoaaGreatDoorQh4
import Derived.KernelRfl
import Derived.Laws.Concat
import Derived.Laws.IdiomStrings
import Derived.Laws.AppendOwn
set_option linter.unusedVariables false
set_option linter.unusedSimpArgs false
set_option linter.unusedSectionVars false
section
namespace Go.Proofs.YtmihjfcbofejoaaGreatDoor
open Go
def d4 (dn nm:aa):aa:=47 :: (dn++47 :: nm)
theorem od (dn nm:aa):(d4 dn nm).length=dn.length+nm.length+2:=by unfold d4;simp;omega
theorem lr {nm:aa} (h:am nm=true):aj nm=[nm]:=by
 unfold am at h
 simp only [Bool.and_eq_true,Bool.not_eq_true'] at h
 refine lp fun k hk=>?_
 have h1:=h.2.2.1
 unfold pl at h1
 rw [List.any_eq_false] at h1
 have:=h1 47 (List.mem_of_getElem? hk)
 exact this (by decide)
theorem tq {nm:aa} (h:aj nm=[nm]):∀ dn:aa,(∀ c∈dn,c≠47)->aj (dn++47 :: nm)=[dn,nm]
 | [],_=>by
  show aj (47 :: nm)=_
  rw [aj,if_pos rfl,h]
 | x :: l,hx=>by
  show aj (x :: (l++47 :: nm))=_
  rw [aj,if_neg (hx x (List.mem_cons_self ..)),tq h l fun c hc=>hx c (List.mem_cons_of_mem _ hc)]
theorem Fg {nm:aa} (h:am nm=true):∀ c∈nm,c≠47:=by
 unfold am at h
 simp only [Bool.and_eq_true,Bool.not_eq_true'] at h
 have h1:=h.2.2.1
 unfold pl at h1
 rw [List.any_eq_false] at h1
 intro c hc he
 subst he
 exact h1 47 hc (by decide)
theorem Ow {dn nm:aa} (hd:am dn=true) (h:am nm=true):ew (d4 dn nm)=some [dn,nm]:=by
 have hl:=aq hd
 have h1:aj (dn++47 :: nm)=[dn,nm]:=tq (lr h) dn (Fg hd)
 unfold ew d4
 simp only [if_true]
 rw [if_neg (by simp),h1,if_neg (by simp)]
 rw [show [dn,nm].all am=true from by rw [List.all_cons,List.all_cons,List.all_nil,h,hd];rfl]
 rfl
structure PF where
 i:Nat
 q:Nat
 nm:aa
 c:aa
def hasF (fl:List PF):Nat:=(fl.map fun x=>has x.c.length).sum
structure DirF (p:Pl) (dn:aa) (N:Nat) (T:FT) (sl:List Slot) (fl:List PF):Prop where
 dnm:am dn=true
 root:T 0=some (.dir [some (dn,1)])
 dir:T 1=some (.dir sl)
 ok:DirOk sl
 len:sl.length<=N
 slot:∀ q nm i,sl[q]?=some (some (nm,i)) ↔ ∃ x∈fl,x.q=q/\x.nm=nm/\x.i=i
 file:∀ x∈fl,T x.i=some (.file x.c)/\2<=x.i/\am x.nm=true
 none':∀ j,2<=j->(∀ x∈fl,x.i≠j)->T j=none
 top:∀ x∈fl,x.i < N+2
 inj:fl.Pairwise fun x y=>x.i≠y.i/\x.nm≠y.nm
 tot':tot (fmT T) p.ino=1+has (64 * sl.length)+hasF fl
section
variable {p:Pl} {dn:aa} {N:Nat} {T:FT} {sl:List Slot} {fl:List PF}
theorem DirF.tok (h:DirF p dn N T sl fl) (hN:N<=1000):TOk T:=by
 intro d s hd
 by_cases h0:d=0
 ·subst h0
  rw [h.root] at hd
  injection hd with hd;injection hd with hd
  subst hd
  refine ⟨⟨fun q n i hq=>?_,fun q r n i j h1 h2=>?_⟩,by show 1<=_;decide⟩
  ·rcases q with _ | q
   ·injection hq with hq;injection hq with hq;injection hq with h1 h2;subst h1;subst h2;exact ⟨aq h.dnm,by decide⟩
   ·simp at hq
  ·rcases q with _ | q
   ·rcases r with _ | r
    ·rfl
    ·simp at h2
   ·simp at h1
 ·by_cases h1:d=1
  ·subst h1
   rw [h.dir] at hd
   injection hd with hd;injection hd with hd
   subst hd
   exact ⟨h.ok,by have:=h.len;omega⟩
  ·by_cases hx:∀ x∈fl,x.i≠d
   ·rw [h.none' d (by omega) hx] at hd;cases hd
   ·obtain ⟨x,hx⟩:=Classical.not_forall.1 hx
    obtain ⟨hxm,hxi⟩:=Classical.not_imp.1 hx
    have hxi:x.i=d:=Classical.byContradiction hxi
    have:=(h.file x hxm).1
    rw [hxi,hd] at this
    cases this
theorem DirF.findD (h:DirF p dn N T sl fl):d7 T 0 dn=(1,0):=by
 unfold d7
 rw [if_pos h.dnm,h.root]
 show (match jz dn [some (dn,1)] with | some (_,i)=>(i,0) | none=>(0,4))=_
 have ho:DirOk [some (dn,1)]:=⟨fun q n i hq=>by
  rcases q with _ | q
  ·injection hq with hq;injection hq with hq;injection hq with h1 h2;subst h1;subst h2;exact ⟨aq h.dnm,by decide⟩
  ·simp at hq,fun q r n i j h1 h2=>by
  rcases q with _ | q
  ·rcases r with _ | r
   ·rfl
   ·simp at h2
  ·simp at h1⟩
 rw [Df ho (q:=0) (i:=1) rfl]
theorem DirF.parent (h:DirF p dn N T sl fl) {nm:aa} (hn:am nm=true):dx T (d4 dn nm)=(1,nm,0):=by
 unfold dx
 rw [Ow h.dnm hn]
 have hw:de T 0 [dn]=(1,0):=by
  unfold de
  rw [h.findD]
  rfl
 show (if [dn,nm]=[] then _ else if (de T 0 [dn]).2=0 then (match T (de T 0 [dn]).1 with | some (.dir _)=>((de T 0 [dn]).1,nm,0) | _=>(0,[],6)) else _)=_
 rw [if_neg (by simp),hw,if_pos rfl,h.dir]
theorem DirF.findNo (h:DirF p dn N T sl fl) {nm:aa} (hn:am nm=true) (hx:∀ x∈fl,x.nm≠nm):d7 T 1 nm=(0,4):=by
 unfold d7
 rw [if_pos hn,h.dir]
 show (match jz nm sl with | some (_,i)=>(i,0) | none=>(0,4))=_
 cases hl:jz nm sl with
 | none=>rfl
 | some y =>
  obtain ⟨q,i⟩:=y
  obtain ⟨x,hxm,_,h2,_⟩:=(h.slot q nm i).1 (jg hl)
  exact absurd h2 (hx x hxm)
theorem DirF.look (h:DirF p dn N T sl fl) {x:PF} (hx:x∈fl):jz x.nm sl=some (x.q,x.i):=Df h.ok ((h.slot x.q x.nm x.i).2 ⟨x,hx,rfl,rfl,rfl⟩)
theorem DirF.fileAt (h:DirF p dn N T sl fl) {x:PF} (hx:x∈fl):qy T (d4 dn x.nm)=(x.i,1,x.c.length,0):=by
 have hf:=h.file x hx
 have h1:d7 T 1 x.nm=(x.i,0):=by
  unfold d7
  rw [if_pos hf.2.2,h.dir]
  show (match jz x.nm sl with | some (_,i)=>(i,0) | none=>(0,4))=_
  rw [h.look hx]
 have hw:de T 0 [dn,x.nm]=(x.i,0):=by
  unfold de
  rw [h.findD]
  show de T 1 [x.nm]=_
  unfold de
  rw [h1]
  rfl
 have hl:fp T (d4 dn x.nm)=(x.i,1,x.c.length,0):=by
  unfold fp
  rw [Ow h.dnm hf.2.2]
  show (if (de T 0 [dn,x.nm]).2=0 then _ else _)=_
  rw [hw,if_pos rfl]
  show (match T x.i with | some y=>(x.i,y.kind,y.size,0) | none=>(x.i,0,0,4))=_
  rw [hf.1]
  rfl
 unfold qy
 rw [hl,if_neg (by rintro ⟨_,h⟩;exact h rfl)]
theorem Fh {T:FT}:∀ n:Nat,T n=none->∃ i,i<=n/\T i=none/\∀ j < i,T j≠none:=by
 intro n
 induction n using Nat.strongRecOn with
 | _ n ih =>
  intro hn
  by_cases h:∀ j < n,T j≠none
  ·exact ⟨n,Nat.le_refl _,hn,h⟩
  ·obtain ⟨j,hj⟩:=Classical.not_forall.1 h
   obtain ⟨hjn,hj2⟩:=Classical.not_imp.1 hj
   obtain ⟨i,h1,h2,h3⟩:=ih j hjn (Classical.byContradiction hj2)
   exact ⟨i,by omega,h2,h3⟩
theorem DirF.free (h:DirF p dn N T sl fl):∃ i,2<=i/\i<=N+2/\T i=none/\∀ j < i,T j≠none:=by
 obtain ⟨i,h1,h2,h3⟩:=Fh (N+2) (h.none' (N+2) (by omega) (fun x hx=>by have:=h.top x hx;omega))
 refine ⟨i,?_,h1,h2,h3⟩
 rcases Nat.lt_or_ge i 2 with hl | hl
 ·have:i=0 ∨ i=1:=by omega
  rcases this with rfl | rfl
  ·rw [h.root] at h2;cases h2
  ·rw [h.dir] at h2;cases h2
 ·exact hl
theorem vn {T:FT} {d:Nat} {sl:List Slot} {nm:aa} {i:Nat} {x:NodeT} {j:Nat}:mkT T d sl nm i x j=if j=d then some (.dir (setS sl (d6 sl) (some (nm,i)))) else if j=i then some x else T j:=by
 unfold mkT updT
 rfl
theorem Ra {T:FT} {d n:Nat} {sl:List Slot} {nm:aa} {i:Nat} (hd:T d=some (.dir sl)) (hi:T i=none) (hdn:d < n) (hin:i < n) (hne:d≠i) :
  tot (fmT (mkT T d sl nm i (.file []))) n+has (64 * sl.length)=tot (fmT T) n+has (64 * (setS sl (d6 sl) (some (nm,i))).length):=by
 have h1:=ip (fmT T) hin (some (NodeT.file []).f)
 rw [iq,l5 hi] at h1
 have h2:=ip (fmT (updT T i (some (.file [])))) hdn (some (NodeT.dir (setS sl (d6 sl) (some (nm,i)))).f)
 rw [iq,ep (x:=.dir sl) (by rw [e9 _ _ hne];exact hd)] at h2
 have e0:hasO none=0:=rfl
 have e1:hasO (some (NodeT.file []).f)=0:=by show has 0=0;rfl
 have e2:hasO (some (NodeT.dir sl).f)=has (64 * sl.length):=by show has (dirB sl).length=_;rw [cg]
 have e3:hasO (some (NodeT.dir (setS sl (d6 sl) (some (nm,i)))).f)=has (64 * (setS sl (d6 sl) (some (nm,i))).length):=by show has (dirB _).length=_;rw [cg]
 unfold mkT
 omega
theorem DirF.made (h:DirF p dn N T sl fl) {nm:aa} {i:Nat} (hn:am nm=true) (hx:∀ x∈fl,x.nm≠nm) (h2:2<=i) (hi:i<=N+2) (hT:T i=none) (hino:N+2 < p.ino) (hN:N<=900) :
  DirF p dn (N+1) (mkT T 1 sl nm i (.file [])) (setS sl (d6 sl) (some (nm,i))) (fl++[⟨i,d6 sl,nm,[]⟩]):=by
 have hfl:=rj sl
 have hfi:∀ x∈fl,x.i≠i:=fun x hxm he=>by
  have:=(h.file x hxm).1
  rw [he,hT] at this
  cases this
 have hfree:∀ n j,sl[d6 sl]?≠some (some (n,j)):=by
  intro n j hh
  unfold d6 at hh
  cases hf:i4 sl sl.length with
  | some r =>
   rw [hf] at hh
   rw [Option.getD_some,(pn hf).2.1] at hh
   cases hh
  | none =>
   rw [hf] at hh
   simp at hh
 have hnm:=aq hn
 have hslot:=h.slot
 refine ⟨h.dnm,by rw [vn,if_neg (by decide),if_neg (by omega)];exact h.root,by rw [vn,if_pos rfl],?_,?_,?_,?_,?_,?_,?_,?_⟩
 ·refine h.ok.set hfl hnm (by omega) fun r j hr hh=>?_
  obtain ⟨x,hxm,_,h3,_⟩:=(hslot _ _ _).1 hh
  exact hx x hxm h3
 ·rw [Bo hfl];have:=h.len;omega
 ·intro q n j
  by_cases hq:q=d6 sl
  ·subst hq
   rw [zj hfl]
   constructor
   ·intro hh
    injection hh with hh;injection hh with hh;injection hh with h3 h4
    exact ⟨_,List.mem_append_right _ (List.mem_singleton.2 rfl),rfl,h3,h4⟩
   ·rintro ⟨x,hxm,h3,h4,h5⟩
    rcases List.mem_append.1 hxm with hxm | hxm
    ·exact absurd ((hslot _ _ _).2 ⟨x,hxm,h3,rfl,rfl⟩) (hfree _ _)
    ·rw [List.mem_singleton.1 hxm] at h4 h5
     rw [<- h4,<-h5]
  ·rw [vl hfl hq,hslot]
   constructor
   ·rintro ⟨x,hxm,h3⟩;exact ⟨x,List.mem_append_left _ hxm,h3⟩
   ·rintro ⟨x,hxm,h3,h4⟩
    rcases List.mem_append.1 hxm with hxm | hxm
    ·exact ⟨x,hxm,h3,h4⟩
    ·rw [List.mem_singleton.1 hxm] at h3
     exact absurd h3.symm hq
 ·intro x hxm
  rcases List.mem_append.1 hxm with hxm | hxm
  ·have hf:=h.file x hxm
   refine ⟨?_,hf.2⟩
   rw [vn,if_neg (by omega),if_neg (hfi x hxm)]
   exact hf.1
  ·rw [List.mem_singleton.1 hxm]
   refine ⟨?_,h2,hn⟩
   show mkT T 1 sl nm i (.file []) i=_
   rw [vn,if_neg (by omega),if_pos rfl]
 ·intro j hj hjx
  have h1:=hjx _ (List.mem_append_right _ (List.mem_singleton.2 rfl))
  rw [vn,if_neg (by omega),if_neg (fun e=>h1 e.symm)]
  exact h.none' j hj fun x hxm=>hjx x (List.mem_append_left _ hxm)
 ·intro x hxm
  rcases List.mem_append.1 hxm with hxm | hxm
  ·have:=h.top x hxm;omega
  ·rw [List.mem_singleton.1 hxm];show i < N+1+2;omega
 ·refine List.pairwise_append.2 ⟨h.inj,List.pairwise_singleton _ _,fun x hxm y hym=>?_⟩
  rw [List.mem_singleton.1 hym]
  exact ⟨hfi x hxm,hx x hxm⟩
 ·have ht:=Ra (nm:=nm) h.dir hT (n:=p.ino) (by omega) (by omega) (by omega)
  have hh:hasF (fl++[⟨i,d6 sl,nm,[]⟩])=hasF fl:=by
   unfold hasF
   rw [List.map_append,List.sum_append]
   show _+(has 0+0)=_
   rfl
  rw [hh]
  have:=h.tot'
  omega
end
section
variable {p:Pl} {dn:aa} {N:Nat} {T:FT} {sl:List Slot} {fl:List PF}
theorem M9 (pre post:List PF) (x:PF):hasF (pre++x :: post)=hasF pre+(has x.c.length+hasF post):=by
 unfold hasF
 rw [List.map_append,List.sum_append,List.map_cons,List.sum_cons]
theorem DirF.wrote {pre post:List PF} {x:PF} (h:DirF p dn N T sl (pre++x :: post)) (c':aa) (hino:N+2<=p.ino):DirF p dn N (updT T x.i (some (.file c'))) sl (pre++⟨x.i,x.q,x.nm,c'⟩ :: post):=by
 have hxm:x∈pre++x :: post:=List.mem_append_right _ (List.mem_cons_self ..)
 have hfx:=h.file x hxm
 have hinj:=h.inj
 rw [List.pairwise_append,List.pairwise_cons] at hinj
 obtain ⟨hp1,⟨hp2,hp3⟩,hp4⟩:=hinj
 have hpre:∀ y∈pre,y.i≠x.i/\y.nm≠x.nm:=fun y hy=>hp4 y hy x (List.mem_cons_self ..)
 have hpost:∀ y∈post,x.i≠y.i/\x.nm≠y.nm:=hp2
 have back:∀ y∈pre++(⟨x.i,x.q,x.nm,c'⟩:PF) :: post,∃ z∈pre++x :: post,z.i=y.i/\z.q=y.q/\z.nm=y.nm:=fun y hy=>by
  rcases List.mem_append.1 hy with hy | hy
  ·exact ⟨y,List.mem_append_left _ hy,rfl,rfl,rfl⟩
  ·rcases List.mem_cons.1 hy with rfl | hy
   ·exact ⟨x,hxm,rfl,rfl,rfl⟩
   ·exact ⟨y,List.mem_append_right _ (List.mem_cons_of_mem _ hy),rfl,rfl,rfl⟩
 have forth:∀ z∈pre++x :: post,∃ y∈pre++(⟨x.i,x.q,x.nm,c'⟩:PF) :: post,z.i=y.i/\z.q=y.q/\z.nm=y.nm:=fun z hz=>by
  rcases List.mem_append.1 hz with hz | hz
  ·exact ⟨z,List.mem_append_left _ hz,rfl,rfl,rfl⟩
  ·rcases List.mem_cons.1 hz with rfl | hz
   ·exact ⟨_,List.mem_append_right _ (List.mem_cons_self ..),rfl,rfl,rfl⟩
   ·exact ⟨z,List.mem_append_right _ (List.mem_cons_of_mem _ hz),rfl,rfl,rfl⟩
 refine ⟨h.dnm,by rw [e9 _ _ (by omega)];exact h.root,by rw [e9 _ _ (by omega)];exact h.dir,h.ok,h.len,fun q nm i=>?_,fun y hy=>?_,fun j hj hjx=>?_,fun y hy=>?_,?_,?_⟩
 ·rw [h.slot]
  constructor
  ·rintro ⟨z,hz,h1,h2,h3⟩
   obtain ⟨y,hy,e1,e2,e3⟩:=forth z hz
   exact ⟨y,hy,by rw [<- e2];exact h1,by rw [<- e3];exact h2,by rw [<- e1];exact h3⟩
  ·rintro ⟨y,hy,h1,h2,h3⟩
   obtain ⟨z,hz,e1,e2,e3⟩:=back y hy
   exact ⟨z,hz,by rw [e2];exact h1,by rw [e3];exact h2,by rw [e1];exact h3⟩
 ·rcases List.mem_append.1 hy with hy | hy
  ·have hf:=h.file y (List.mem_append_left _ hy)
   rw [e9 _ _ (hpre y hy).1]
   exact hf
  ·rcases List.mem_cons.1 hy with rfl | hy
   ·exact ⟨Iw ..,hfx.2⟩
   ·have hf:=h.file y (List.mem_append_right _ (List.mem_cons_of_mem _ hy))
    rw [e9 _ _ (fun e=>(hpost y hy).1 e.symm)]
    exact hf
 ·have hx':=hjx _ (List.mem_append_right _ (List.mem_cons_self ..))
  rw [e9 _ _ (fun e=>hx' e.symm)]
  refine h.none' j hj fun z hz=>?_
  obtain ⟨y,hy,e1,_⟩:=forth z hz
  rw [e1]
  exact hjx y hy
 ·obtain ⟨z,hz,e1,_⟩:=back y hy
  rw [<- e1]
  exact h.top z hz
 ·rw [List.pairwise_append,List.pairwise_cons]
  exact ⟨hp1,⟨hp2,hp3⟩,fun y hy z hz=>by
   rcases List.mem_cons.1 hz with rfl | hz
   ·exact hpre y hy
   ·exact hp4 y hy z (List.mem_cons_of_mem _ hz)⟩
 ·have htop:=h.top x hxm
  have h1:=ip (fmT T) (show x.i < p.ino by omega) (some (NodeT.file c').f)
  rw [iq,ep hfx.1] at h1
  have e1:hasO (some (NodeT.file c').f)=has c'.length:=rfl
  have e2:hasO (some (NodeT.file x.c).f)=has x.c.length:=rfl
  have h2:=h.tot'
  rw [M9] at h2 ⊢
  show tot _ p.ino=1+has (64 * sl.length)+(hasF pre+(has c'.length+hasF post))
  omega
end
theorem FSB.wkn {f:Nat} {p:Pl} {F0:FM} {T:FT} {W W':Nat} {B:Base} {w:World} {M:List HP} (hW:W<=W') (hs:Sat B w (FSB f p F0 T W :: M)):Sat B w (FSB f p F0 T W' :: M):=by
 obtain ⟨y,_,h1⟩:=Sat.opens hs (FSB.opens f p F0 T W)
 have h2:Sat B w (IN y.2.2.1 y.2.1 y.1 p F0 (fmT T) W true :: pt f (fO y.1 y.2.1 y.2.2.1 true false false y.2.2.2) :: LD y.2.2.2 T :: M):=Sat.front (.there (.there .here)) h1
 obtain ⟨z,hz,h3⟩:=Sat.opens h2 (IN.opens y.2.2.1 y.2.1 y.1 p F0 (fmT T) W true)
 have h4:=Sat.shuts (IN.opens y.2.2.1 y.2.1 y.1 p F0 (fmT T) W' true) (x:=z) ⟨hz.r0,hz.r,hz.dk,Nat.le_trans hz.wt hW⟩ h3
 exact Sat.shuts (FSB.opens f p F0 T W') (x:=y) trivial (Sat.take (.cons (.there .here) (.cons (.there .here) (.cons .here .nil))) h4)
def DB (f:Nat) (p:Pl) (dn:aa) (N:Nat) (F0:FM) (fl:List PF) (W:Nat):HP:=exH (fun x:FT×List Slot=>DirF p dn N x.1 x.2 fl) (fun x=>[FSB f p F0 x.1 W])
theorem DB.opens (f:Nat) (p:Pl) (dn:aa) (N:Nat) (F0:FM) (fl:List PF) (W:Nat):Opens (DB f p dn N F0 fl W) (fun x:FT×List Slot=>DirF p dn N x.1 x.2 fl) (fun x=>[FSB f p F0 x.1 W]):=exH.opens
def DR (f:Nat) (p:Pl) (dn:aa) (N:Nat) (fl:List PF):HP:=exH (fun x:FT×List Slot=>DirF p dn N x.1 x.2 fl) (fun x=>[FSR f p x.1])
theorem DR.opens (f:Nat) (p:Pl) (dn:aa) (N:Nat) (fl:List PF):Opens (DR f p dn N fl) (fun x:FT×List Slot=>DirF p dn N x.1 x.2 fl) (fun x=>[FSR f p x.1]):=exH.opens
theorem Na {f:Nat} {p:Pl} {dn:aa} {N W:Nat} {F0:FM} {fl:List PF} {nm:aa} (ho:PlOk p) (hN:N<=900) (hino:N+2 < p.ino) (hn:am nm=true) (hx:∀ x∈fl,x.nm≠nm) (hl:nm.length<=1000) (hw:Rw p W 14) (hfit:1+has (64 * (N+1))+hasF fl<=p.dc) :
  Spec Tryz.prog 100 #[.pointer (some ⟨f,0,none⟩),sv (d4 dn nm)] [DB f p dn N F0 fl W] fun F v M=>∃ i q,v=okV/\M=DB f p dn (N+1) F0 (fl++[⟨i,q,nm,[]⟩]) (W+1+8) :: F:=by
 refine Spec.opens (DB.opens f p dn N F0 fl W) fun x hd=>?_
 obtain ⟨T,sl⟩:=x
 have hd:DirF p dn N T sl (fl):=hd
 obtain ⟨i,h2,hi,hT,hb⟩:=hd.free
 have hfl:=rj sl
 have hlen:=hd.len
 refine Spec.post' (I6 (f:=f) (p:=p) (T:=T) (F0:=F0) (W0:=W) (path:=d4 dn nm) (d:=1) (i:=i) (nm:=nm) (sl:=sl) (x:=.file []) ho (hd.tok (by omega)) (by rw [od];have:=aq hd.dnm;omega) (by intro h;have:=congrArg List.length h;rw [od] at this;have:=aq hd.dnm;simp only [List.length_cons,List.length_nil] at *;omega) (hd.parent hn) (hd.findNo hn hx) hd.dir (by omega) hT hb rfl rfl hw (by
  have h1:=xp (show max (64 * sl.length) (64 * d6 sl+64)<=64 * (N+1) by omega)
  have h2:=hd.tot'
  omega)) ?_
 rintro F v M B w ⟨rfl,rfl⟩ hs
 exact ⟨_,⟨i,d6 sl,rfl,rfl⟩,Sat.shuts (DB.opens f p dn (N+1) F0 _ (W+1+8)) (x:=(_,_)) (hd.made hn hx h2 hi hT hino hN) hs⟩
theorem Nb {f m cc:Nat} {p:Pl} {dn:aa} {N W:Nat} {F0:FM} {pre post:List PF} {x:PF} {bs:aa} {R:HP} {A:Option Addr} (ho:PlOk p) (hN:N<=900) (hino:N+2<=p.ino) (hl:x.nm.length<=1000) (hR:bs=[] ∨ Reads R A (bvs bs)) (hm:bs.length=m) (hcc:m<=cc) (hcb:cc<=maxLen) (hm6:m<=6000) (hbg:x.c.length+m<=70656) (hw:Rw p W 40)
  (hfit:1+has (64 * N)+hasF (pre++x :: post)+14<=p.dc) :
  Spec Tryz.prog 96 #[.pointer (some ⟨f,0,none⟩),sv (d4 dn x.nm),.slice A m cc] [DB f p dn N F0 (pre++x :: post) W,R] fun F v M=>v=okV/\M=DB f p dn N F0 (pre++⟨x.i,x.q,x.nm,x.c++bs⟩ :: post) (W+40) :: R :: F:=by
 refine Spec.opens (DB.opens f p dn N F0 _ W) fun y hd=>?_
 obtain ⟨T,sl⟩:=y
 have hd:DirF p dn N T sl (pre++x :: post):=hd
 have hxm:x∈pre++x :: post:=List.mem_append_right _ (List.mem_cons_self ..)
 have hf:=hd.file x hxm
 have hlen:=hd.len
 have hh:has (max x.c.length (x.c.length+m))<=has x.c.length+14:=by
  unfold has dat
  split<;>split<;>omega
 have h1:=xp (show 64 * sl.length<=64 * N by omega)
 have h2:=hd.tot'
 refine Spec.post' (I7 (f:=f) (p:=p) (T:=T) (F0:=F0) (W0:=W) (path:=d4 dn x.nm) (i:=x.i) (m:=m) (cc:=cc) (fb:=x.c) (bs:=bs) (R:=R) (A:=A) ho (hd.tok (by omega)) (by rw [od];have:=aq hd.dnm;omega) (hd.fileAt hxm) hf.1 hR hm hcc hcb (hw.less (by omega)) (Nat.le_refl _) hbg (by omega)) ?_
 rintro F v M B w ⟨rfl,rfl⟩ hs
 refine ⟨_,⟨rfl,rfl⟩,Sat.shuts (DB.opens f p dn N F0 _ (W+40)) (x:=(_,sl)) (hd.wrote (x.c++bs) hino) ?_⟩
 rw [show wrB x.c x.c.length bs=x.c++bs by unfold wrB mo ext;simp] at hs
 exact FSB.wkn (by omega) hs
theorem T4 {f:Nat} {p:Pl} {dn:aa} {N:Nat} {fl:List PF} {x:PF} (ho:PlOk p) (hN:N<=900) (hx:x∈fl) (hl:x.nm.length<=1000) (hc:x.c.length<=70656) :
  Spec Tryz.prog 116 #[.pointer (some ⟨f,0,none⟩),sv (d4 dn x.nm),nI 0,nI 70656] [DR f p dn N fl] fun F v M=>∃ u,v=.tuple #[u,.int .i64 0]/\M=rowR 5 1 u x.c.length (bvs x.c) :: DR f p dn N fl :: F:=by
 refine Spec.opens (DR.opens f p dn N fl) fun y hd=>?_
 obtain ⟨T,sl⟩:=y
 have hd:DirF p dn N T sl (fl):=hd
 have h:=T1 (f:=f) (p:=p) (T:=T) (path:=d4 dn x.nm) (i:=x.i) (z:=x.c.length) (fb:=x.c) (at':=0) (n:=70656) ho (hd.tok (by omega)) (by rw [od];have:=aq hd.dnm;omega) (hd.fileAt hx) (hd.file x hx).1 (by decide) (by decide)
 rw [List.drop_zero,List.take_of_length_le hc] at h
 refine Spec.post' h ?_
 rintro F v M B w ⟨u,rfl,rfl⟩ hs
 exact ⟨_,⟨u,rfl,rfl⟩,Sat.front (.there .here) (Sat.shuts (M:=rowR _ _ _ _ _ :: F) (DR.opens f p dn N fl) (x:=(T,sl)) hd (Sat.front (.there .here) hs))⟩
def digP (b j:Nat):Nat:=48+b / 10 ^ j % 10
def al (b:Nat):aa:=(List.range 20).map fun i=>UInt8.ofNat (digP b (19 - i))
theorem ce (b:Nat):(al b).length=20:=by simp [al]
theorem l6 (b j:Nat):48<=digP b j/\digP b j<=57:=by
 unfold digP
 have:=Nat.mod_lt (b / 10 ^ j) (show 0 < 10 by decide)
 omega
theorem l7 (b j:Nat):(UInt8.ofNat (digP b j)).toNat=digP b j:=by
 have:=l6 b j
 rw [UInt8.toNat_ofNat',Nat.mod_eq_of_lt (by omega)]
theorem xq {b i:Nat} (h:i < 20):(al b)[i]?=some (UInt8.ofNat (digP b (19 - i))):=by simp [al,h]
theorem Nc (b:Nat):am (al b)=true:=by
 have hlen:=ce b
 unfold am
 have h1:al b≠[]:=fun h=>by rw [h] at hlen;cases hlen
 have h2:pl (al b)=false:=by
  unfold pl
  rw [List.any_eq_false]
  intro c hc
  unfold al at hc
  obtain ⟨i,_,rfl⟩:=List.mem_map.1 hc
  have hr:=l6 b (19 - i)
  have hn:=l7 b (19 - i)
  intro h
  simp only [Bool.or_eq_true,beq_iff_eq] at h
  rcases h with h | h
  ·rw [h] at hn
   have:(47:UInt8).toNat=47:=rfl
   omega
  ·rw [h] at hn
   have:(0:UInt8).toNat=0:=rfl
   omega
 have h3:al b≠[46]:=fun h=>by rw [h] at hlen;cases hlen
 have h4:al b≠[46,46]:=fun h=>by rw [h] at hlen;cases hlen
 rw [decide_eq_false h1,decide_eq_true (show (al b).length<=50 by omega),h2,decide_eq_false h3,decide_eq_false h4]
 rfl
def valP (l:aa):Nat:=l.foldl (fun v c=>10 * v+(c.toNat - 48)) 0
theorem zp (b:Nat) (hb:b < 10 ^ 20):∀ k,k<=20->valP ((al b).take k)=b / 10 ^ (20 - k):=by
 intro k
 induction k with
 | zero =>
  intro _
  rw [List.take_zero,Nat.sub_zero,Nat.div_eq_of_lt hb]
  rfl
 | succ k ih =>
  intro hk
  rw [List.take_add_one,xq (by omega)]
  unfold valP at ih ⊢
  rw [Option.toList_some,List.foldl_append,ih (by omega),List.foldl_cons,List.foldl_nil,l7]
  unfold digP
  rw [show 20 - k=(19 - k)+1 by omega,show 20 - (k+1)=19 - k by omega,Nat.pow_succ,<-Nat.div_div_eq_div_mul]
  have:=Nat.div_add_mod (b / 10 ^ (19 - k)) 10
  omega
theorem zq {b:Nat} (hb:b < 10 ^ 20):valP (al b)=b:=by
 have h:=zp b hb 20 (Nat.le_refl _)
 rwa [List.take_of_length_le (by rw [ce];exact Nat.le_refl _),Nat.sub_self,Nat.pow_zero,Nat.div_one] at h
theorem I8 {a b:Nat} (ha:a < 10 ^ 20) (hb:b < 10 ^ 20) (h:al a=al b):a=b:=by
 rw [<- zq ha,<-zq hb,h]
def qz (b k:Nat):aa:=List.replicate (20 - k) 0++(List.range k).map fun i=>UInt8.ofNat (digP b (k - 1 - i))
theorem Fi (b:Nat):qz b 20=al b:=by simp [qz,al]
theorem I9 {b k:Nat} (h:k<=20):(qz b k).length=20:=by
 unfold qz
 rw [List.length_append,List.length_replicate,List.length_map,List.length_range]
 omega
theorem Ja {b k:Nat} (h:k < 20):(qz b k).set (19 - k) (UInt8.ofNat (digP b k))=qz b (k+1):=by
 unfold qz
 rw [show 20 - k=(19 - k)+1 by omega,List.replicate_succ',List.append_assoc,List.set_append]
 rw [if_neg (by rw [List.length_replicate];omega),List.length_replicate,Nat.sub_self]
 rw [show 20 - (k+1)=19 - k by omega]
 congr 1
 show UInt8.ofNat (digP b k) :: ((List.range k).map fun i=>UInt8.ofNat (digP b (k - 1 - i)))=_
 rw [List.range_succ_eq_map,List.map_cons,List.map_map]
 congr 1
 refine List.map_congr_left fun i _=>?_
 show _=UInt8.ofNat (digP b (k+1 - 1 - (i+1)))
 rw [show k+1 - 1 - (i+1)=k - 1 - i by omega]
theorem Rb {f:Nat} {p:Pl} {T:FT}:Spec Tryz.prog 93 #[.pointer (some ⟨f,0,none⟩)] [FSR f p T] fun F v M=>v=okV/\M=FSB f p (fmT T) T 0 :: F:=by
 refine Spec.intro Tryz.func93 rfl rfl fun B F=>?_
 simp only [Tryz.ntmps93,List.cons_append,List.nil_append,env0,Nat.reduceAdd]
 refine .openR (FSR.opens f p T) fun y _=>?_
 obtain ⟨c,a,s,mp⟩:=y
 simp only [fsLs,List.cons_append,List.nil_append]
 refine .sr (.assign (.z (.seq (.block (.sr (.move ?_))))))
 refine .neNil ?_ uu
 refine .move (.gT (.move (.gT (.nilCheck (.gT ?_)))))
 refine .fa ?_ pz
 refine .gT ?_
 refine .ld ?_ sc4
 refine .pickT (.assign (.z ?_))
 refine .condF rfl rfl ?_
 refine .sr (.move ?_)
 refine .call (hc:=Tryz.call89) (sp:=I2 (f:=f) (s:=s) (a:=a) (c:=c) (mp:=mp) (b:=false) (ov:=false) (dead:=false)) (h:=?_)
 rintro _ _ ⟨rfl,rfl⟩
 refine .assign (.z ?_)
 refine .condF rfl rfl ?_
 refine .skip (.blockNormal (.next (.sr (.move (.move ?_)))))
 refine .nilCheck ?_
 refine .fa ?_ pz
 refine .st ?_ sc4
 refine .nilCheck ?_
 refine .fa ?_ Bs
 refine .st ?_ sc4
 refine .x (.move (.nilCheck ?_))
 refine .fa ?_ fd
 refine .ld ?_ dj
 refine .call (hc:=Tryz.call76) (sp:=To (s:=s) (a:=a) (c:=c) (p:=p) (F0:=fmT T) (F:=fmT T) (W:=0)) (h:=?_)
 rintro _ _ ⟨rfl,rfl⟩
 refine .assign (.z (.ret (?_)))
 refine .shutR (FSB.opens f p (fmT T) T 0) (c,a,s,mp) trivial ?_
 exact .ret1 (h1:=.tmp (t:=2) rfl) ⟨_,⟨rfl,rfl⟩,Am.auto⟩
theorem Nf {f:Nat} {p:Pl} {F0:FM} {T:FT} {W:Nat} (ho:PlOk p):Spec Tryz.prog 95 #[.pointer (some ⟨f,0,none⟩)] [FSB f p F0 T W] fun F v M=>v=okV/\M=FSR f p T :: F:=by
 refine Spec.intro Tryz.func95 rfl rfl fun B F=>?_
 simp only [Tryz.ntmps95,List.cons_append,List.nil_append,env0,Nat.reduceAdd]
 refine .openR (FSB.opens f p F0 T W) fun y _=>?_
 obtain ⟨c,a,s,mp⟩:=y
 simp only [I4,List.cons_append,List.nil_append]
 refine .sr (.assign (.z (.seq (.sr (.move ?_)))))
 refine .eqNil ?_ uu
 refine .move (.gT (.move (.gT (.nilCheck (.gT ?_)))))
 refine .fa ?_ fd
 refine .gT ?_
 refine .ld ?_ dj
 refine .gT ?_
 refine .eqNil ?_ km
 refine .pickF (.z ?_)
 refine .condF rfl rfl ?_
 refine .skip (.next (.seq (.sr (.move (.nilCheck ?_)))))
 refine .fa ?_ pz
 refine .ld ?_ sc4
 refine .not (.z ?_)
 refine .condF rfl rfl ?_
 refine .skip (.next (.sr (.move (.nilCheck ?_))))
 refine .fa ?_ pz
 refine .st ?_ sc4
 refine .z (.seq (.sr (.move (.nilCheck ?_))))
 refine .fa ?_ Bs
 refine .ld ?_ sc4
 refine .z ?_
 refine .condF rfl rfl ?_
 refine .skip (.next (.sr (.move ?_)))
 refine .call (hc:=Tryz.call166) (sp:=fsEnd (f:=f) (s:=s) (a:=a) (c:=c) (mp:=mp) (b:=false) (ov:=false) (dead:=false) (p:=p) (S:=T) (T:=T) (F0:=F0) (Fm:=fmT T) (W:=W) ho) (h:=?_)
 rintro _ _ ⟨rfl,rfl⟩
 refine .assign (.z (.ret (?_)))
 refine .shutR (FSR.opens f p T) (c,a,s,mp) trivial ?_
 exact .ret1 (h1:=.tmp (t:=2) rfl) ⟨_,⟨rfl,rfl⟩,Am.auto⟩
theorem vo {f:Nat} {p:Pl} {α:Type} {q:α->Prop} {T:FT} {T':α->FT} {W':α->Nat} {X0:HP} {X':α->HP} {k:FuncId} {cap:Array Value} (ho:PlOk p) (hc:∀ args w,(callFunc k args).run Tryz.prog w=.ok (.enter k args) w)
  (sp:Spec Tryz.prog k cap [FSB f p (fmT T) T 0,X0] fun F v M=>∃ y,q y/\v=okV/\M=FSB f p (fmT T) (T' y) (W' y) :: X' y :: F):Spec Tryz.prog 41 #[.pointer (some ⟨f,0,none⟩),.func (.func k) #[] cap] [FSR f p T,X0] fun F v M=>∃ y,q y/\v=okV/\M=FSR f p (T' y) :: X' y :: F:=by
 refine Spec.intro Tryz.func41 rfl rfl fun B F=>?_
 simp only [Tryz.ntmps41,List.cons_append,List.nil_append,env0,Nat.reduceAdd]
 have sp':=sp
 rw [show cap=(([]:List Value)).toArray++cap from by simp] at sp'
 refine .openR (FSR.opens f p T) fun y _=>?_
 obtain ⟨c,a,s,mp⟩:=y
 simp only [fsLs,List.cons_append,List.nil_append]
 refine .sr (.assign (.z (.seq (.sr (.move ?_)))))
 refine .call (hc:=Tryz.call89) (sp:=I2 (f:=f) (s:=s) (a:=a) (c:=c) (mp:=mp) (b:=false) (ov:=false) (dead:=false)) (h:=?_)
 rintro _ _ ⟨rfl,rfl⟩
 refine .z ?_
 refine .condF rfl rfl ?_
 refine .skip (.next (.seq (.sr (.move (.nilCheck ?_)))))
 refine .fa ?_ pz
 refine .ld ?_ sc4
 refine .z ?_
 refine .shutR (FSR.opens f p T) (c,a,s,mp) trivial ?_
 refine .condF rfl rfl ?_
 refine .skip (.next (.sr (.move ?_)))
 refine .call (hc:=Tryz.call93) (sp:=Rb (f:=f) (p:=p) (T:=T)) (h:=?_)
 rintro _ _ ⟨rfl,rfl⟩
 refine .z (.seq (.sr (.move ?_)))
 refine .callV (hc:=hc) (sp:=sp') (h:=?_)
 rintro _ _ ⟨y,hq,rfl,rfl⟩
 refine .assign (.x (.move ?_))
 refine .nei (.z ?_)
 refine .condF rfl rfl ?_
 refine .skip (.next (.sr (.move ?_)))
 refine .call (hc:=Tryz.call95) (sp:=Nf (f:=f) (p:=p) (F0:=fmT T) (T:=T' y) (W:=W' y) ho) (h:=?_)
 rintro _ _ ⟨rfl,rfl⟩
 refine .assign (.z (.ret (?_)))
 exact .ret1 (h1:=.tmp (t:=4) rfl) ⟨_,⟨y,hq,rfl,rfl⟩,Am.auto⟩
theorem Fj {f:Nat} {p:Pl} {dn:aa} {N N':Nat} {fl:List PF} {β:Type} {qb:β->Prop} {fl':β->List PF} {W':β->Nat} {X0:HP} {X':β->HP} {k:FuncId} {cap:Array Value} (ho:PlOk p) (hc:∀ args w,(callFunc k args).run Tryz.prog w=.ok (.enter k args) w)
  (sp:∀ F0,Spec Tryz.prog k cap [DB f p dn N F0 fl 0,X0] fun F v M=>∃ y,qb y/\v=okV/\M=DB f p dn N' F0 (fl' y) (W' y) :: X' y :: F):Spec Tryz.prog 41 #[.pointer (some ⟨f,0,none⟩),.func (.func k) #[] cap] [DR f p dn N fl,X0] fun F v M=>∃ y,qb y/\v=okV/\M=DR f p dn N' (fl' y) :: X' y :: F:=by
 refine Spec.opens (DR.opens f p dn N fl) fun x hd=>?_
 obtain ⟨T,sl⟩:=x
 refine Spec.post' (vo (f:=f) (p:=p) (α:=β×FT×List Slot) (q:=fun y=>qb y.1/\DirF p dn N' y.2.1 y.2.2 (fl' y.1)) (T:=T) (T':=fun y=>y.2.1) (W':=fun y=>W' y.1) (X0:=X0) (X':=fun y=>X' y.1) ho hc ?_) ?_
 ·refine Spec.post' (Spec.pre' (sp (fmT T)) (pre':=[FSB f p (fmT T) T 0,X0]) fun B w F hs=>Sat.shuts (DB.opens f p dn N (fmT T) fl 0) (x:=(T,sl)) hd hs) ?_
  rintro F v M B w ⟨y,hq,rfl,rfl⟩ hs
  obtain ⟨z,hz,hs1⟩:=Sat.opens hs (DB.opens f p dn N' (fmT T) (fl' y) (W' y))
  exact ⟨_,⟨(y,z.1,z.2),⟨hq,hz⟩,rfl,rfl⟩,hs1⟩
 ·rintro F v M B w ⟨y,⟨hq,hz⟩,rfl,rfl⟩ hs
  exact ⟨_,⟨y.1,hq,rfl,rfl⟩,Sat.shuts (DR.opens f p dn N' (fl' y.1)) (x:=(y.2.1,y.2.2)) hz hs⟩
theorem sl162 :Tryz.prog.underlying 162=some (.slice 166):=by kernel_rfl
section
variable {P:Program} {w:World}
theorem tr (s:aa) (size:Nat) (w:World):(Builtin.firstCells size s.length (sv s)).run P w=.ok (bvs s).toArray w:=by
 have h1:(bstr s).extract 0 s.length=bstr s:=by
  apply ByteArray.ext
  simp [bstr]
 rw [ex]
 simp only [Builtin.firstCells,h1]
 simp [bstr,bvs,bv]
theorem uv {t u ty e:TypeId} {i:TypeInfo} {z:Value} {bytes:Nat} (ht:P.underlying t=some (.slice e)) (hu:P.underlying u=some .string) (hi:P.info? e=some i) (hz:i.zero=some z)
  (hsize:i.size=1) (hby:i.bytes=bytes) (hzs:z.cells.size=1) {v:Value} {n:Nat} {xs:List Value} (hown:w.ownsRow 0 e 1 v n xs) (s:aa)
  (h63:n+s.length<=maxLen) (hbytes:(n+s.length) * bytes<=140737488355328) :
  ∃ v' w',(Builtin.append_ #[t,u] ty #[v,sv s]).run P w=.ok v' w'/\w'.ownsRow 0 e 1 v' (n+s.length) (xs++bvs s)/\w.grownBy w' v.ownBlock ∧
   (v'=.slice none 0 0 ↔ v=.slice none 0 0/\s.length=0)/\(v'.ownBlock=v.ownBlock ∨ v'.ownBlock=some w.heap.size):=by
 subst hby
 have hsmall:n+s.length<=9223372036854775807:=by simp only [maxLen] at h63;omega
 have hbl:(bvs s).length=s.length:=ag s
 have hxl:xs.length=n:=by simpa using hown.1
 have hlen:(xs++bvs s).length=(n+s.length) * 1:=by rw [List.length_append,hxl,hbl];omega
 have hlo:(Builtin.lenOf (sv s)).run P w=.ok s.length w:=by rw [ex];simp [Builtin.lenOf,cp]
 have grown:∀ old:Nat,old < n+s.length->∀ row:Option Nat,
   (w.drew.alloc (.cells (xs.toArray++(bvs s).toArray++Builtin.zeroCells z.cells (grownCap w (n+s.length) old e - (n+s.length))) e)).ownsRow 0 e 1
    (.slice (some ⟨w.heap.size,0,none⟩) (n+s.length) (grownCap w (n+s.length) old e)) (n+s.length) (xs++bvs s) ∧
   w.grownBy (w.drew.alloc (.cells (xs.toArray++(bvs s).toArray++Builtin.zeroCells z.cells (grownCap w (n+s.length) old e - (n+s.length))) e)) row:=by
  intro old ho row
  have hge:=grownCap_ge w (n+s.length) old e
  refine ⟨⟨hlen,.inr ⟨w.heap.size,_,_,rfl,Nat.zero_le _,heap_alloc_new w.drew _,hge,grownCap_le_maxLen w _ old e h63,?_,?_⟩⟩,⟨rfl,rfl,rfl,by simp,fun k hk _=>heap_alloc_old w.drew _ hk⟩⟩
  ·simp only [Array.size_append,List.size_toArray,size_zeroCells,hzs,hxl,hbl]
   omega
  ·simp only [Array.toList_append]
   rw [<- hlen]
   exact List.take_left
 have hgrow:∀ (b:Option Addr) (cap:Nat),v=.slice b n cap->n+s.length > cap->(Builtin.firstCells 1 n v).run P w.drew=.ok xs.toArray w.drew ->
   (Builtin.append_ #[t,u] ty #[v,sv s]).run P w=.ok (.slice (some ⟨w.heap.size,0,none⟩) (n+s.length) (grownCap w (n+s.length) cap e))
    (w.drew.alloc (.cells (xs.toArray++(bvs s).toArray++Builtin.zeroCells z.cells (grownCap w (n+s.length) cap e - (n+s.length))) e)):=by
  intro b cap hv hc hf
  have hn:¬ (n+s.length<=cap):=by omega
  have h1:¬ (9223372036854775807 < ((n:Int)+(s.length:Int))):=by omega
  have h2:¬ (281474976710656 < Builtin.nextslicecap (n+s.length) cap * i.bytes):=by
   have:=growslice_fits (old:=cap) (by omega) hbytes
   omega
  have h3:=tr (P:=P) s 1 w.drew
  subst hv
  rw [ex] at *
  simp [Builtin.append_,run_underlying ht,run_underlying hu,sizeOf,typeInfo,zeroValue,hi,hz,hlo,hn,h1,h2,Question.forced,hsize,hf,h3,newRow,grownCap]
  congr 2
  apply Array.ext'
  simp [List.append_assoc]
 rcases hown.2 with ⟨rfl,rfl⟩ | ⟨g,cap,cur,rfl,hbg,hg,hnc,hcm,hcs,htake⟩
 ·have hx:xs=[]:=List.eq_nil_of_length_eq_zero hxl
  subst hx
  by_cases hm:s.length=0
  ·have hs:s=[]:=List.eq_nil_of_length_eq_zero hm
   subst hs
   refine ⟨.slice none 0 0,w,?_,World.ownsRow_nil w 0 e 1,⟨rfl,rfl,rfl,Nat.le_refl _,fun _ _ _=>rfl⟩,by simp,Or.inl rfl⟩
   have h3:=tr (P:=P) [] 1 w
   rw [ex] at *
   simp only [List.length_nil] at hlo h3
   simp [Builtin.append_,run_underlying ht,run_underlying hu,sizeOf,typeInfo,hi,hlo,hsize,h3]
  ·have hr:=hgrow none 0 rfl (by omega) (by simp [Builtin.firstCells])
   have hgr:=grown 0 (by omega) (Value.ownBlock (.slice none 0 0))
   exact ⟨_,_,hr,hgr.1,hgr.2,by simp [hm],Or.inr rfl⟩
 ·by_cases hroom:n+s.length<=cap
  ·have hfit:n * 1+(bvs s).length<=cur.size:=by rw [hbl];omega
   have h3:=tr (P:=P) s 1 w
   have hst:=run_storeCells_at P g (n * 1) e (bvs s) 0 cur w hg (by simpa using hfit) (fun u hu=>by
    have:=bo s u hu
    cases u<;>first | rfl | (simp [Value.single] at this;done))
   simp only [Nat.add_zero] at hst
   have hr:(Builtin.append_ #[t,u] ty #[.slice (some ⟨g,0,none⟩) n cap,sv s]).run P w=.ok (.slice (some ⟨g,0,none⟩) (n+s.length) cap) (w.setRow g (cur.toList.take (n * 1)++bvs s++cur.toList.drop (n * 1+(bvs s).length)).toArray):=by
    rw [ex] at *
    simp only [Nat.mul_one] at hst
    simp [Builtin.append_,run_underlying ht,run_underlying hu,sizeOf,typeInfo,hi,hlo,hroom,hsize,h3,Addr.add_lit,hst]
   refine ⟨_,_,hr,⟨hlen,.inr ⟨g,cap,_,rfl,hbg,setRow_heap w g cur _ e _ hg,hroom,hcm,?_,?_⟩⟩,⟨rfl,rfl,rfl,by simp,fun k _ hk=>setRow_other w g k _ (fun e=>hk (by simp [Value.ownBlock,e]))⟩,by simp,Or.inl rfl⟩
   ·simp only [List.size_toArray,List.length_append,List.length_take,List.length_drop,Array.length_toList]
    omega
   ·rw [htake,<-hlen]
    exact List.take_left
  ·have hf:(Builtin.firstCells 1 n (.slice (some ⟨g,0,none⟩) n cap)).run P w.drew=.ok xs.toArray w.drew :=
    run_firstCells_some (P:=P) w.drew 1 n ⟨g,0,none⟩ n cap xs (by omega) (by simpa using hown.cells (g:=g) rfl)
   have hr:=hgrow _ cap rfl (by omega) hf
   have hgr:=grown cap (by omega) (Value.ownBlock (.slice (some ⟨g,0,none⟩) n cap))
   exact ⟨_,_,hr,hgr.1,hgr.2,by simp,Or.inr rfl⟩
end
section
variable {P:Program} {B:Base} {n:Fr} {Q:Exit->Act->World->Prop} {e:Env} {L:List HP} {ops:Array Oper} {l:List Oper}
variable {d:Nat} {ty:TypeId} {pos:String} {af:Array Edge} {x y z:Operand} {gd:Option (Nat×Bool)}
theorem WL.appendT {t u el bytes:Nat} {v:Value} {k:Nat} {xs:List Value} {M:List HP} (s:aa) (ht:ar P t el 1 bytes=true) (hu':kr P u=true)
  (r:Rem L (rowR el 1 v k xs) M) (h63:k+s.length<=maxLen) (hbytes:(k+s.length) * bytes<=140737488355328)
  (hzc:∃ zz,ba P el=some zz/\zz.size=1)
  (h:∀ v',(v'=.slice none 0 0 ↔ v=.slice none 0 0/\s.length=0)->WL P B n ops l Q ((d,v') :: e) (rowR el 1 v' (k+s.length) (xs++bvs s) :: M)) (hx:evo e x=some v:=by rfl) (hy:evo e y=some (sv s):=by rfl) (hd:Nat.ble (d+1) n.k=true:=by rfl) :
  WL P B n ops (⟨some d,.call ⟨.builtin .append,#[x,y],#[t,u]⟩,ty,pos,af,none⟩ :: l) Q e L :=
 WL.step rfl fun a w ha hs=>by
  obtain ⟨hu,i,z,hi,hsz',hby,hz⟩:=eh ht
  obtain ⟨zz,hzz,hzs⟩:=hzc
  have hzs':z.cells.size=1:=by
   unfold ba at hzz
   simp [hi,hz] at hzz
   rw [hzz];exact hzs
  have hs1:=hs.front r
  obtain ⟨v',w',hr,h2,h3,h4,h5⟩:=uv (P:=P) (ty:=ty) hu (kj hu') hi hz hsz' hby hzs' hs1.ownsRow s h63 hbytes
  refine ⟨v',w',_,_,?_,ha.put hd _,hs1.rowGrown h2 h3 h5,h v' h4⟩
  simp [execOp,resolve,invoke,builtin,ha.eval hx,ha.eval hy,hr]
theorem WL.ixF {t:Nat} {u i v:Value} (h:WL P B n ops l Q ((d,v) :: e) L) (hr:∀ w,(Instr.index t u i).run P w=.ok v w) (hx:evo e x=some u:=by rfl) (hy:evo e y=some i:=by rfl) (hd:Nat.ble (d+1) n.k=true:=by rfl) :
  WL P B n ops (⟨some d,.index t x y,ty,pos,af,none⟩ :: l) Q e L :=
 WL.pure h hd fun a w ha hs=>by simp [execOp,ha.eval hx,ha.eval hy,hr]
end
section
variable {P:Program} {B:Base} {n:Fr} {Q:Exit->Act->World->Prop} {e:Env} {L L0:List HP} {ops:Array Oper} {ds:List Nat}
theorem WD.tu {fuel:Nat} {o:Op} {ty:TypeId} {pos:String} {af:Array Edge} {lst:Array Bool} (i:Nat) {d t j:Nat} {b:Bool} (hi:ops[i]?=some ⟨some d,o,ty,pos,af,some (j,b)⟩)
  (h:WD P B n ops Q L0 ds fuel (lst.setIfInBounds i true) ((d,undef) :: e) L) (hc:r4 ops ds lst (lst.setIfInBounds i true) i=true:=by kernel_rfl)
  (h0:Am L L0:=by repeat (first | exact .refl | exact .nil | (apply Am.take;focus ((repeat (first | exact .here | apply Rem.there));done)) | refine .skip ?_))
  (hs:(ops[j]?).bind (·.dst)=some t:=by rfl) (hl:Go.Proofs.YtmihjfcbofejoaaGreatDoor.look e t=some undef:=by rfl) (hd:Nat.ble (d+1) n.k=true:=by rfl):WD P B n ops Q L0 ds (fuel+1) lst e L:=by
 intro hQ a w ha hsat
 simp only [r4,Bool.and_eq_true,beq_iff_eq] at hc
 obtain ⟨⟨⟨⟨h1,h2⟩,h3⟩,h4⟩,h5⟩:=hc
 have hy:yielded ops a.tmps j=none:=by
  have hg:=ha.get t undef hl
  rw [Array.getD_eq_getD_getElem?] at hg
  cases hq:a.tmps[t]? with
  | none=>simp [yielded,hs,hq]
  | some u =>
   rw [hq] at hg
   have hu:u=undef:=hg
   subst hu
   simp [yielded,hs,hq,undef]
 exact il (v:=undef) hi (Region.noSelect_spec h1) (fun c a w=>hQ c a _ undef w) h4 fuel lst a w (Region.free_spec hi h2) (by simpa using h3)
  (.inr ⟨by simp [Region.wanted,hy],rfl⟩) (h0.wk B w hsat) (h hQ _ w (ha.put hd undef) hsat)
end
theorem i5 {α:Type} {enc:α->List Value} {m:Nat} (hk:∀ x,(enc x).length=m):∀ (l:List α) (i:Nat) (x:α),l[i]?=some x->((l.flatMap enc).drop (i * m)).take m=enc x:=by
 intro l
 induction l with
 | nil=>intro i x h;cases h
 | cons y l ih =>
  intro i x h
  cases i with
  | zero =>
   simp only [List.getElem?_cons_zero,Option.some.injEq] at h
   subst h
   rw [List.flatMap_cons,Nat.zero_mul,List.drop_zero,<-hk y]
   exact List.take_left
  | succ i =>
   rw [List.flatMap_cons,Nat.succ_mul,Nat.add_comm,<-List.drop_drop]
   have h1:(enc y++l.flatMap enc).drop m=l.flatMap enc:=by rw [<- hk y];exact List.drop_left
   rw [h1]
   exact ih i x (by simpa using h)
theorem oe {α:Type} {enc:α->List Value} {m:Nat} (hk:∀ x,(enc x).length=m) {l:List α} {i:Nat} (h:i < l.length):i * m+m<=(l.flatMap enc).length:=by
 rw [be hk,<-Nat.succ_mul]
 exact Nat.mul_le_mul_right _ h
theorem Rd :Tryz.prog.underlying 202=some (.int .u32):=by kernel_rfl
theorem Jb :ad Tryz.prog 121 0 0=true:=by kernel_rfl
def T5 (c:Int):Int:=bxor .u32 (c.fdiv (2 ^ (min (1:Int).toNat IntKind.u32.bits))) (band .u32 2197175160 (IntKind.u32.wrap (0 - band .u32 c 1)))
def crc8 (c:Int):Nat->Int
 | 0=>c
 | j+1=>T5 (crc8 c j)
def crcK (xs:aa) (c:Int):Nat->Int
 | 0=>c
 | k+1=>crc8 (bxor .u32 (crcK xs c k) (IntKind.u32.wrap ((xs.getD k 0).toNat:Int))) 8
def crcI (xs:aa):Int:=A5 .u32 (crcK xs (A5 .u32 0) xs.length)
theorem vp (xs:aa):0<=crcI xs/\crcI xs < 4294967296:=by
 have:∀ x,0<=IntKind.u32.wrap x/\IntKind.u32.wrap x < 4294967296:=fun x=>by
  have:IntKind.u32.wrap x=x % 2 ^ 32:=by simp [IntKind.wrap,IntKind.bits,IntKind.signed]
  rw [this];omega
 exact this _
theorem Re {R:HP} {A:Addr} {m c:Nat} {xs:aa} (hR:Reads R (some A) (bvs xs)) (hm:xs.length=m) (hl:m<=1073741824):Spec Tryz.prog 210 #[.int .u32 0,.slice (some A) m c] [R] fun F v M=>v=.int .u32 (crcI xs)/\M=R :: F:=by
 refine Spec.intro Tryz.func210 rfl rfl fun B F=>?_
 simp only [Tryz.ntmps210,List.cons_append,List.nil_append,env0,Nat.reduceAdd]
 subst hm
 obtain ⟨ab,ao,asp⟩:=A
 have hsp:asp=none:=hR.1
 subst hsp
 refine .sr (.assign (.x (.move ?_)))
 refine .comp ?_
 refine .assign (.z (.seq (.sr (.move ?_))))
 refine .lenS ?_ sl79
 refine .move (.z (.block ?_))
 refine .loopA (σ:=Nat) (fun k=>[(0,.int .u32 (crcK xs (A5 .u32 0) k)),(9,.slice (some ⟨ab,ao,none⟩) xs.length c),(10,.int .i64 ((xs.length:Nat):Int)),(11,.int .i64 ((k:Nat):Int))]) (fun _=>R :: F) (fun k=>k<=xs.length) (fun k=>xs.length - k) 0 (Nat.zero_le _) ?_
 rintro k hk
 refine .sr ?_
 refine .lss (.z (.seq ?_))
 refine .cond rfl (fun hb=>?_) (fun hb=>?_)
 ·have hlt:k < xs.length:=by have h:(k:Int) < (xs.length:Int):=of_decide_eq_true hb;omega
  have hgk:(bvs xs)[((k:Nat):Int).toNat]?=some (.int .u8 ((xs.getD k 0).toNat:Int)):=by rw [Int.toNat_natCast];simp [bvs,hlt];rfl
  refine .skip (.next (.seq (.block (.sr ?_))))
  refine .idx1 ?_ so79
  refine .ldR (i:=((k:Nat):Int).toNat) ?_ sc5 hR hgk
  refine .assign (.x (.move (.move ?_)))
  refine .cvt ?_ un5 Rd
  refine .xor ?_
  refine .assign (.x (.move (.z (.block ?_))))
  refine .loopA (σ:=Nat) (fun j=>[(0,.int .u32 (crc8 (bxor .u32 (crcK xs (A5 .u32 0) k) (IntKind.u32.wrap ((xs.getD k 0).toNat:Int))) j)),(9,.slice (some ⟨ab,ao,none⟩) xs.length c),(10,.int .i64 ((xs.length:Nat):Int)),(11,.int .i64 ((k:Nat):Int)),(19,.int .i64 ((j:Nat):Int))]) (fun _=>R :: F) (fun j=>j<=8) (fun j=>8 - j) 0 (Nat.zero_le _) ?_
  rintro j hj
  refine .sr ?_
  refine .lss (.z (.seq ?_))
  refine .cond rfl (fun hb2=>?_) (fun hb2=>?_)
  ·have hlt2:j < 8:=by have h:(j:Int) < 8:=of_decide_eq_true hb2;omega
   refine .skip (.next (.seq (.block (.region (.move ?_)))))
   refine .shr ?_
   refine .move ?_
   refine .and ?_
   refine .negw ?_
   refine .and ?_
   refine .xor ?_
   refine .assign (.nil (.blockNormal (.next (.region ?_))))
   refine .add ?_
   refine .move (.nil ?_)
   refine .cast (d:=19) (u:=.int .i64 ((j+1:Nat):Int)) rfl (cI9 (by omega)) ?_
   exact .back (j+1) (by show j+1<=8;omega) (by show 8 - (j+1) < 8 - j;omega)
  ·have hge2:j=8:=by have h:¬ (j:Int) < 8:=of_decide_eq_false hb2;omega
   subst hge2
   refine .exit (.thenExit (.thenExit (.blockExit (?_))))
   refine .blockNormal (.next (.region ?_))
   refine .add ?_
   refine .move (.nil ?_)
   refine .cast (d:=11) (u:=.int .i64 ((k+1:Nat):Int)) rfl (cI9 (by omega)) ?_
   exact .back (k+1) (by show k+1<=xs.length;omega) (by show xs.length - (k+1) < xs.length - k;omega)
 ·have hge:k=xs.length:=by have h:¬ (k:Int) < (xs.length:Int):=of_decide_eq_false hb;omega
  subst hge
  refine .exit (.thenExit (.thenExit (.blockExit (?_))))
  refine .next (.sr (.move ?_))
  refine .comp ?_
  refine .assign (.z (.ret (?_)))
  exact .ret1 (h1:=.tmp (t:=4) rfl) ⟨_,⟨rfl,rfl⟩,Am.auto⟩
theorem Ox {R:HP} {A:Addr} {m c:Nat} {xs:aa} (hR:Reads R (some A) (bvs xs)) (hm:xs.length=m) (hl:m<=1073741824):Spec Tryz.prog 134 #[.slice (some A) m c] [R] fun F v M=>v=.int .u32 (crcI xs)/\M=R :: F:=by
 refine Spec.intro Tryz.func134 rfl rfl fun B F=>?_
 simp only [Tryz.ntmps134,List.cons_append,List.nil_append,env0,Nat.reduceAdd]
 refine .sr (.assign (.x (.move ?_)))
 refine .call (hc:=Tryz.call210) (sp:=Re hR hm hl) (h:=?_)
 rintro _ _ ⟨rfl,rfl⟩
 refine .assign (.z (.ret (?_)))
 exact .ret1 (h1:=.tmp (t:=2) rfl) ⟨_,⟨rfl,rfl⟩,Am.auto⟩
theorem dy {a:Nat} (h:a < 2 ^ 64):IntKind.u64.wrap ((a:Nat):Int)=(a:Int):=by
 have:IntKind.u64.wrap ((a:Nat):Int)=(a:Int) % 2 ^ 64:=by simp [IntKind.wrap,IntKind.bits,IntKind.signed]
 rw [this];omega
theorem bsI7 (a b c d e f h:Int):bc Tryz.prog 26 7 [(0,.int .i64 a),(1,.int .i64 b),(2,.int .i64 c),(3,.int .i64 d),(4,.int .i64 e),(5,.int .i64 f),(6,.int .i64 h)] 3 #[.int .i64 a,.int .i64 b,.int .i64 c,.int .i64 d,.int .i64 e,.int .i64 f,.int .i64 h]:=fun w=>by kernel_rfl
def plN (p:Pl):List Nat:=[p.n,p.ino,p.im,p.bm,p.tb,p.da,p.dc]
def magicS :aa:=[66,79,76,76,65,82,68,83]
def encN (nums:List Nat):Nat->aa
 | 0=>magicS++List.replicate 504 0
 | i+1=>put (encN nums i) (8+4 * i) 4 false (nums.getD i 0)
theorem ia (nums:List Nat):∀ i,(encN nums i).length=512
 | 0=>by rw [encN,List.length_append,List.length_replicate];rfl
 | i+1=>by rw [encN,an];exact ia nums i
theorem xr (nums:List Nat) {k:Nat} (hk:k < 100) (hv:nums.getD k 0 < 2 ^ 32):∀ i,k < i->i<=100->ax (seg (encN nums i) (8+4 * k) 4 false)=nums.getD k 0
 | i+1,h1,h2=>by
  rw [encN]
  have hlen:=ia nums i
  by_cases hki:k=i
  ·subst hki
   exact gz (by omega) (by rw [show (256:Nat) ^ 4=2 ^ 32 from by decide];exact hv)
  ·rw [ah (by omega)]
   exact xr nums hk hv i (by omega) (by omega)
def supB (p:Pl):aa:=put (encN (plN p) 7) 36 4 false (crcI ((encN (plN p) 7).take 36)).toNat
theorem nh (p:Pl):(supB p).length=512:=by unfold supB;rw [an];exact ia _ _
theorem ts {p:Pl} (h:PlIs p):∀ v∈plN p,v < 2 ^ 32:=by
 have h1:=h.im;have h2:=h.bm;have h3:=h.m1;have h4:=h.da;have h5:=h.dc;have h8:=h.n2;have h10:=h.i2
 intro v hv
 unfold plN at hv
 simp only [List.mem_cons,List.not_mem_nil,or_false] at hv
 rcases hv with rfl | rfl | rfl | rfl | rfl | rfl | rfl<;>omega
theorem T6 {p:Pl} (h:PlIs p):ax (seg (supB p) 8 4 false)=p.n:=by
 unfold supB
 rw [ah (by omega)]
 exact xr (plN p) (k:=0) (by omega) (ts h _ (List.getElem_mem (l:=plN p) (n:=0) (by show 0 < 7;decide))) 7 (by omega) (by omega)
theorem Ng {p:Pl} (h:PlIs p):ax (seg (supB p) 12 4 false)=p.ino:=by
 unfold supB
 rw [ah (by omega)]
 exact xr (plN p) (k:=1) (by omega) (ts h _ (List.getElem_mem (l:=plN p) (n:=1) (by show 1 < 7;decide))) 7 (by omega) (by omega)
theorem Oy {p:Pl} (h:PlIs p):Spec Tryz.prog 79 #[.agg p.cells] [] fun F v M=>∃ g q,v=.slice (some ⟨g,0,none⟩) 512 q/\(512<=q/\q<=maxLen)/\M=buf g 5 q (bvs (supB p)) :: F:=by
 refine Spec.intro Tryz.func79 rfl rfl fun B F=>?_
 simp only [Tryz.ntmps79,List.cons_append,List.nil_append,env0,Nat.reduceAdd]
 refine .sr ?_
 refine .box fun b1=>?_
 refine .to (A:=pt b1 (.cells p.cells 121 (0,0))) (A':=pt b1 (.cells p.cells 121 (0,0))) (fun h hh=>hh) ?_
 refine .assign (.x ?_)
 refine .mkSN 512 z5 so79 (by decide) (by decide) fun b6=>?_
 refine .assign (.x (.move ?_))
 refine .copyS magicS so79 ?_ (hdl:=by rw [List.length_replicate];decide)
 refine .to (r:=.here) (A':=buf b6 5 512 (bvs (encN (plN p) 0))) (fun h hh=>by
  have e1:(List.replicate 512 (Value.int .u8 0)).take 0++(bvs magicS).take (min magicS.length 512)++(List.replicate 512 (Value.int .u8 0)).drop (0+min magicS.length 512)=bvs (encN (plN p) 0):=by
   rw [encN,bj,bw,List.take_zero,List.nil_append,List.drop_replicate]
   rfl
  rw [<- e1];exact hh) ?_
 refine .z (.seq (.sr ?_))
 refine .fa ?_ Jb
 refine .ld ?_ sc3
 refine .fa ?_ se
 refine .ld ?_ sc3
 refine .fa ?_ sf
 refine .ld ?_ sc3
 refine .fa ?_ Ap
 refine .ld ?_ sc3
 refine .fa ?_ Aq
 refine .ld ?_ sc3
 refine .fa ?_ Ar
 refine .ld ?_ sc3
 refine .fa ?_ wu
 refine .ld ?_ sc3
 refine .buildS (fun b23=>?_) (bsI7 _ _ _ _ _ _ _)
 refine .lenS ?_ sl26
 refine .move (.z (.block ?_))
 refine .to (A:=pt b23 (.cells #[.int .i64 (p.n:Int),.int .i64 (p.ino:Int),.int .i64 (p.im:Int),.int .i64 (p.bm:Int),.int .i64 (p.tb:Int),.int .i64 (p.da:Int),.int .i64 (p.dc:Int)] 3 (0,0))) (A':=pt b23 (.cells (kw (plN p)).toArray 3 (0,0))) (fun h hh=>hh) ?_
 refine .loopA (σ:=Nat×Nat×Nat) (fun y=>[(3,.slice (some ⟨y.2.1,0,none⟩) 512 y.2.2),(23,.slice (some ⟨b23,0,none⟩) 7 7),(24,.int .i64 7),(25,.int .i64 ((y.1:Nat):Int))]) (fun y=>buf y.2.1 5 y.2.2 (bvs (encN (plN p) y.1)) :: pt b23 (.cells (kw (plN p)).toArray 3 (0,0)) :: F) (fun y=>y.1<=7/\512<=y.2.2/\y.2.2<=maxLen) (fun y=>7 - y.1) (0,b6,512) ⟨Nat.zero_le _,Nat.le_refl _,by show 512<=maxLen;decide⟩ ?_
 rintro y hy
 obtain ⟨k,gb,q⟩:=y
 obtain ⟨hk,hq1,hq2⟩:=hy
 simp only at hk hq1 hq2 ⊢
 refine .sr ?_
 refine .lss (.z (.seq ?_))
 refine .cond rfl (fun hb=>?_) (fun hb=>?_)
 ·have hlt:k < 7:=by have h:(k:Int) < 7:=of_decide_eq_true hb;omega
  have hgk:(kw (plN p))[((k:Nat):Int).toNat]?=some (.int .i64 (((plN p).getD k 0:Nat):Int)):=by
   have hl7:k < (plN p).length:=hlt
   rw [Int.toNat_natCast,List.getD_eq_getElem?_getD,List.getElem?_eq_getElem hl7]
   unfold kw ints
   simp [hl7]
  have hv:(plN p).getD k 0 < 2 ^ 32:=by
   have hl7:k < (plN p).length:=hlt
   rw [List.getD_eq_getElem?_getD,List.getElem?_eq_getElem hl7]
   exact ts h _ (List.getElem_mem hl7)
  have hlen:=ia (plN p) k
  refine .skip (.next (.seq (.block (.sr (.move ?_)))))
  refine .idx1 ?_ so26
  refine .ldR (i:=((k:Nat):Int).toNat) (R:=pt b23 (.cells (kw (plN p)).toArray 3 (0,0))) ?_ sc3 Reads.pt hgk
  refine .assign (.assign (.y (.move (.move ?_))))
  refine .mul ?_
  refine .add ?_
  refine .move ?_
  refine .cvt ?_ un3 cx
  refine .cast (d:=36) (u:=.int .u64 (((plN p).getD k 0:Nat):Int)) rfl (cI9 (dy (by omega))) ?_
  refine .call (hc:=Tryz.call105) (sp:=li (xs:=encN (plN p) k) (v:=(plN p).getD k 0) Reads.buf hlen (by decide) (by omega) (by omega) (by omega) (by omega)) (h:=?_)
  rintro _ _ ⟨g',q',⟨rfl,h1,h2⟩,rfl⟩
  refine .move ?_
  refine .extract (.extract ?_)
  refine .assign (.nil (.blockNormal (.next (.region ?_))))
  refine .add ?_
  refine .move (.nil ?_)
  refine .to (r:=.here) (A':=buf g' 5 q' (bvs (encN (plN p) (k+1)))) (fun h hh=>by
   rw [encN,show 8+4 * k=(8+4 * ((k:Nat):Int)).toNat from by omega];exact hh) ?_
  refine .cast (d:=25) (u:=.int .i64 ((k+1:Nat):Int)) rfl (cI9 (by omega)) ?_
  exact .back (k+1,g',q') ⟨by show k+1<=7;omega,h1,h2⟩ (by show 7 - (k+1) < 7 - k;omega)
 ·have hge:k=7:=by have h:¬ (k:Int) < 7:=of_decide_eq_false hb;omega
  subst hge
  have hlen:=ia (plN p) 7
  have hcr:=vp ((encN (plN p) 7).take 36)
  refine .exit (.thenExit (.thenExit (.blockExit (?_))))
  refine .next (.sr (.move (.move ?_)))
  refine .slcH ?_ so79
  refine .call (hc:=Tryz.call134) (sp:=Ox (R:=buf gb 5 q (bvs (encN (plN p) 7))) (xs:=(encN (plN p) 7).take 36) (by rw [ck];exact Reads.buf.take 36) (by rw [List.length_take,hlen];rfl) (by decide)) (h:=?_)
  rintro _ _ ⟨rfl,rfl⟩
  refine .cvt ?_ Rd cx
  refine .cast (d:=46) (u:=.int .u64 (((crcI ((encN (plN p) 7).take 36)).toNat:Nat):Int)) rfl (cI9 (by rw [<- dy (a:=(crcI ((encN (plN p) 7).take 36)).toNat) (by omega)];first | (congr 1;omega) | congr 1)) ?_
  refine .call (hc:=Tryz.call105) (sp:=li (xs:=encN (plN p) 7) (v:=(crcI ((encN (plN p) 7).take 36)).toNat) Reads.buf hlen (by decide) (by omega) (by omega) (by omega) (by omega)) (h:=?_)
  rintro _ _ ⟨g',q',⟨rfl,h1,h2⟩,rfl⟩
  refine .move ?_
  refine .extract (.extract ?_)
  refine .assign (.x (.move (.assign (.z (.ret (?_))))))
  exact .ret1 (h1:=.tmp (t:=2) rfl) ⟨_,⟨g',q',rfl,⟨h1,h2⟩,rfl⟩,Am.auto⟩
theorem Rf {R R2:HP} {A A2:Option Addr} {m c m2 c2:Nat} {xs ys:aa} (hR:Reads R A (bvs xs)) (hm:xs.length=m) (hR2:Reads R2 A2 (bvs ys)) (hm2:ys.length=m2):Spec Tryz.prog 158 #[.slice A m c,.slice A2 m2 c2] [R,R2] fun F v M=>v=.bool (decide (xs=ys))/\M=R :: R2 :: F:=by
 refine Spec.intro Tryz.func158 rfl rfl fun B F=>?_
 simp only [Tryz.ntmps158,List.cons_append,List.nil_append,env0,Nat.reduceAdd]
 refine .sr (.assign (.x (.move ?_)))
 refine .cvtBS (R:=R) (xs:=xs) ?_ by79 st9 hR hm
 refine .move ?_
 refine .cvtBS (R:=R2) (xs:=ys) ?_ by79 st9 hR2 hm2
 refine .eqS xs ys ?_
 refine .assign (.z (.ret (?_)))
 exact .ret1 (h1:=.tmp (t:=4) rfl) ⟨_,⟨rfl,rfl⟩,Am.auto⟩
theorem T7 {R:HP} {A:Addr} {cc:Nat} {p:Pl} (h:PlIs p) (hR:Reads R (some A) (bvs (supB p))):Spec Tryz.prog 85 #[.slice (some A) 512 cc] [R] fun F v M=>v=.tuple #[.agg p.cells,.int .i64 0]/\M=R :: F:=by
 refine Spec.intro Tryz.func85 rfl rfl fun B F=>?_
 simp only [Tryz.ntmps85,List.cons_append,List.nil_append,env0,Nat.reduceAdd]
 have hl:=nh p
 have h8:=h.n2
 have h10:=h.i2
 refine .sr ?_
 refine .alloc z121 fun b2=>?_
 refine .assign (.x (.move ?_))
 refine .call (hc:=Tryz.call157) (sp:=lh (p:=8) (size:=4) (big:=false) hR hl (by decide) (by decide) (by decide) (by decide)) (h:=?_)
 rintro _ _ ⟨rfl,rfl⟩
 rw [show ax (seg (supB p) (8:Int).toNat (4:Int).toNat false)=p.n from T6 h]
 refine .move ?_
 refine .extract (.extract (.assign (.assign (.x (.move ?_)))))
 refine .call (hc:=Tryz.call157) (sp:=lh (p:=12) (size:=4) (big:=false) hR hl (by decide) (by decide) (by decide) (by decide)) (h:=?_)
 rintro _ _ ⟨rfl,rfl⟩
 rw [show ax (seg (supB p) (12:Int).toNat (4:Int).toNat false)=p.ino from Ng h]
 refine .move ?_
 refine .extract (.extract (.assign (.assign (.x (.move ?_)))))
 refine .cvt ?_ cx un3
 refine .cast (d:=22) (u:=.int .i64 (p.n:Int)) rfl (cI9 (IntWalk.i64_in _ (by omega))) ?_
 refine .move ?_
 refine .cvt ?_ cx un3
 refine .cast (d:=24) (u:=.int .i64 (p.ino:Int)) rfl (cI9 (IntWalk.i64_in _ (by omega))) ?_
 refine .call (hc:=Tryz.call72) (sp:=Hs h) (h:=?_)
 rintro _ _ ⟨rfl,rfl⟩
 refine .move ?_
 refine .extract (.extract ?_)
 refine .alloc z121 fun b8=>?_
 refine .stV ?_ f9
 refine .to (A:=pt b8 (.cells p.cells 121 (0,0))) (A':=pt b8 (.cells p.cells 121 (0,0))) (fun h hh=>hh) ?_
 refine .assign (.z (.seq (.sr (.move ?_))))
 refine .nei ?_
 refine .move ?_
 refine .cast (d:=30) (u:=.bool false) rfl (cB9 (by first|simp;done|simp;omega|omega)) ?_
 refine .gT ?_
 refine .ldA ?_ f9
 refine .gT ?_
 refine .call (hc:=Tryz.call79) (sp:=Oy h) (h:=?_)
 rintro _ _ ⟨gb,q,rfl,⟨hq1,hq2⟩,rfl⟩
 refine .gT (.move (.gT ?_))
 refine .call (hc:=Tryz.call158) (sp:=Rf (R:=buf gb 5 q (bvs (supB p))) (R2:=R) (xs:=supB p) (ys:=supB p) Reads.buf hl hR hl) (h:=?_)
 rintro _ _ ⟨rfl,rfl⟩
 rw [decide_eq_true rfl]
 refine .gT ?_
 refine .not ?_
 refine .pickF (.z ?_)
 refine .condF rfl rfl ?_
 refine .skip (.next (.sr ?_))
 refine .ldA ?_ f9
 refine .stV ?_ f9
 refine .assign (.z (.ret (?_)))
 exact .ret2 (h2:=.tmp (t:=3) rfl) ⟨_,⟨rfl,rfl⟩,Am.auto⟩
structure DevOk (n:Nat) (V:Nat->aa) (J:JS):Prop where
 ok:HeadsOk n J
 last:J.last < 2 ^ 64
 gen:J.gen < 2 ^ 64
 n1:246<=n
 n2:n<=65536
 fit:Fit n J.ch
 home:∀ k,245<=k->k < n->J.view k=V k
theorem DevOk.settled {n:Nat} {V:Nat->aa} {J:JS} (h:DevOk n V J):DevOk n V J.settled:=by
 refine ⟨h.ok.settled h.fit,h.last,h.gen,h.n1,h.n2,Fit.nil n,fun k h1 h2=>?_⟩
 rw [<- h.home k h1 h2]
 show (kget [] k).getD (lay J.cur J.ch k)=_
 rw [Ct _ _ h.fit.apart]
 rfl
theorem Nh {c n d:Nat} {V0 V:Nat->aa} {D:List Nat} (ht:tagN (V0 1)=some d) (hn1:246<=n):Spec Tryz.prog 82 #[.pointer (some ⟨c,0,none⟩)] [TR c n V0 V D true] fun F v M=>∃ J,v=okV/\DevOk n V J/\M=DevR d n J.cur 0 :: F:=by
 refine Spec.opens (TR.opens c n V0 V D true) fun y hy=>(Cp (c:=c) (j:=y.1) (d:=y.2.1) (n:=n) (S:=y.2.2) hy.hop).post ?_
 rintro F v M ⟨L,hL,hW,hJ,rfl,rfl⟩
 obtain ⟨hdev,hok,hlast,hgen,hn2⟩:=hy.tg _ ht
 have hLf:=hW.perm hL
 have hv:∀ k,245<=k->k < n->(y.2.2.J.commits L).view k=V k:=fun k h1 h2=>by
  rw [JS.view_commits hJ (hW.perm hL) k h1,y6 hL hW.apart]
  exact hy.h1 k h1 h2
 have hD:DevOk n V (y.2.2.J.commits L):=by
  unfold JS.commits at hv ⊢
  by_cases h0:L=[]
  ·rw [if_pos h0] at hv ⊢
   exact ⟨hok,by omega,hgen,hn1,hn2,hJ,hv⟩
  ·rw [if_neg h0] at hv ⊢
   have hnx:(y.2.2.J.commit L).last < 2 ^ 64:=Nat.mod_lt _ (by decide)
   exact ⟨hok.commit hgen hn2 hJ hLf hlast,hnx,hgen,hn1,hn2,hLf,hv⟩
 refine ⟨_,⟨_,rfl,hD,rfl⟩,fun B w hs=>?_⟩
 subst hdev
 obtain ⟨x,hx,h1⟩:=Sat.opens hs (CR.opens c y.1 y.2.1 n _)
 have h2:=Sat.front (.there (.there .here)) h1
 obtain ⟨z,hz,h3⟩:=Sat.opens h2 (JR.opens y.1 y.2.1 n _)
 exact Sat.front (.there (.there (.there (.there .here)))) h3 |> fun h=>Am.wk Am.auto B w h
theorem bdFS (c a s m:Nat):av Tryz.prog 133 [(0,.pointer (some ⟨c,0,none⟩)),(1,.pointer (some ⟨a,0,none⟩)),(2,.pointer (some ⟨s,0,none⟩)),(6,.map (some m))] #[.pointer (some ⟨c,0,none⟩),.pointer (some ⟨a,0,none⟩),.pointer (some ⟨s,0,none⟩),.bool false,.bool false,.bool false,.map (some m)]:=fun w=>by kernel_rfl
theorem Jc {j d:Nat} {p:Pl} {J:JS} {T:FT} (hn1:246<=p.n) (hn2:p.n<=65536):Spec Tryz.prog 75 #[.pointer (some ⟨j,0,none⟩),.agg p.cells] [JR j d p.n J] fun F v M=>∃ f c a s mp,v=.pointer (some ⟨f,0,none⟩)/\M=[pt f (fO c a s false false false mp),LD mp T,pt s (stO c a p),pt a (alO c p),CR c j d p.n ⟨J,[],false,false⟩]++F:=by
 refine Spec.intro Tryz.func75 rfl rfl fun B F=>?_
 simp only [Tryz.ntmps75,List.cons_append,List.nil_append,env0,Nat.reduceAdd]
 refine .sr ?_
 refine .box fun b3=>?_
 refine .to (A:=pt b3 (.cells p.cells 121 (0,0))) (A':=pt b3 (.cells p.cells 121 (0,0))) (fun h hh=>hh) ?_
 refine .assign (.x (.move ?_))
 refine .call (hc:=Tryz.call129) (sp:=cNew (n:=p.n) hn1 hn2) (h:=?_)
 rintro _ _ ⟨c,rfl,rfl⟩
 refine .assign (.x (.move ?_))
 refine .ldA ?_ f9
 refine .call (hc:=Tryz.call130) (sp:=alNew (p:=p)) (h:=?_)
 rintro _ _ ⟨a,rfl,rfl⟩
 refine .assign (.x (.move (.move (.move (.move ?_)))))
 refine .ldA ?_ f9
 refine .call (hc:=Tryz.call131) (sp:=inNew (p:=p)) (h:=?_)
 rintro _ _ ⟨s,rfl,rfl⟩
 refine .mkMap fun m18=>?_
 refine .build ?_ (bdFS _ _ _ _)
 refine .box fun b20=>?_
 refine .assign (.z (.ret (?_)))
 refine .shutR (LD.opens m18 T) (#[],0,[]) (LDP.empty T 0) ?_
 exact .ret1 (h1:=.tmp (t:=4) rfl) ⟨_,⟨b20,c,a,s,m18,rfl,rfl⟩,Am.auto⟩
def mkW (p:Pl):Nat->aa:=svV p (fmtA p (wr eu 245 (supB p))) 0 ⟨2,0,List.replicate 11 0⟩
theorem xu (p:Pl) (V:Nat->aa) (k:Nat):fmtA p V k=if p.bm<=k/\k < p.bm+(p.dc+4095) / 4096 then fmtZ p p.bm p.dc else if p.im<=k/\k < p.im+(p.ino+4095) / 4096 then fmtZ p p.im p.ino else V k:=by
 unfold fmtA;rw [lk,lk]
theorem Jd {p:Pl} {V:Nat->aa} {x:Nd} {k:Nat} (h:k≠p.tb):svV p V 0 x k=V k:=em _ _ (by omega)
theorem Rg {p:Pl} (h:PlIs p):mkW p 245=supB p:=by
 have h1:=h.im;have h2:=h.bm;have h3:=h.m1
 unfold mkW
 rw [Jd (by omega),xu,if_neg (by omega),if_neg (by omega)]
 unfold wr
 rw [if_pos rfl]
theorem Ni {p:Pl} (h:PlIs p) {k:Nat} (hk:246<=k):mkW p k=n8 p k:=by
 have h1:=h.im;have h2:=h.bm;have h3:=h.m1
 have key:∀ v,246<=v->fmtA p (wr eu 245 (supB p)) v=mh p v:=fun v hv=>by
  unfold mh
  rw [xu,xu]
  split
  ·rfl
  ·split
   ·rfl
   ·unfold wr;rw [if_neg (by omega)]
 unfold mkW n8 svV
 generalize fmtA p (wr eu 245 (supB p))=X at key ⊢
 unfold wr
 by_cases ht:k=p.tb+0 / 8
 ·rw [if_pos ht,if_pos ht,key _ (by omega)]
 ·rw [if_neg ht,if_neg ht];exact key k hk
theorem Rh {p:Pl} (h:PlIs p):Len5 (mkW p):=by
 have h0:Len5 (wr eu 245 (supB p)):=fun k=>by unfold wr;split;exact nh p;exact bg
 have h1:Len5 (fmtA p (wr eu 245 (supB p))):=fun k=>by
  rw [xu]
  split
  ·exact ez _ _ _
  ·split
   ·exact ez _ _ _
   ·exact h0 k
 exact Bh h1 _ _
theorem Ri {p:Pl} (h:PlIs p):Rep p (cm0 (mkW p)) qw:=by
 have h1:=(Ic h).mono h.ok (V':=mkW p) (Rh h) (fun v hv=>Ni h (by have:=h.im;omega))
 exact h1.cm h.ok
def tagV (d:Nat):Nat->aa:=fun k=>if k=1 then List.replicate (513+d) 0 else zeros
theorem Do (d:Nat):tagN (tagV d 1)=some d:=by
 have hl:(tagV d 1).length=513+d:=by
  show (List.replicate (513+d) (0:UInt8)).length=_
  rw [List.length_replicate]
 unfold tagN
 rw [hl,if_pos (Nat.le_add_right _ _),Nat.add_sub_cancel_left]
theorem Je {d k:Nat} (h:245<=k):tagV d k=zeros:=if_neg (by omega)
theorem zr :ad Tryz.prog 95 0 0=true:=by kernel_rfl
theorem qn :ad Tryz.prog 95 1 1=true:=by kernel_rfl
theorem zs :ad Tryz.prog 95 2 2=true:=by kernel_rfl
theorem vq :ad Tryz.prog 95 3 3=true:=by kernel_rfl
theorem Dp :ad Tryz.prog 95 4 4=true:=by kernel_rfl
theorem og :ad Tryz.prog 95 5 5=true:=by kernel_rfl
theorem sl301 :Tryz.prog.underlying 301=some (.slice 79):=by kernel_rfl
theorem Rj :ar Tryz.prog 301 79 1 24=true:=by kernel_rfl
theorem ji :c5 Tryz.prog 95 6=true:=by kernel_rfl
def vint (n:Nat):aa:=if 127 < n then UInt8.ofNat (n % 128+128) :: vint (n / 128) else [UInt8.ofNat n]
termination_by n
decreasing_by omega
theorem rk {n:Nat} (h:127 < n):vint n=UInt8.ofNat (n % 128+128) :: vint (n / 128):=by rw [vint,if_pos h]
theorem ka {n:Nat} (h:¬ 127 < n):vint n=[UInt8.ofNat n]:=by rw [vint,if_neg h]
theorem Dq :∀ (k n:Nat),n < 128 ^ (k+1)->(vint n).length<=k+1:=by
 intro k
 induction k with
 | zero=>intro n h;rw [ka (by have:n < 128:=(by simpa using h);omega)];simp
 | succ k ih =>
  intro n h
  by_cases hb:127 < n
  ·rw [rk hb,List.length_cons]
   have:=ih (n / 128) (Nat.div_lt_of_lt_mul (by rw [Nat.mul_comm];simpa [Nat.pow_succ] using h))
   omega
  ·rw [ka hb];simp
theorem gk {n:Nat} (h:n < 18446744073709551616):(vint n).length<=10:=Dq 9 n (by omega)
theorem oh (n:Nat):1<=(vint n).length:=by rw [vint];split<;>simp
theorem Nj :∀ m:Fin 256,bor .u8 ((m.val:Nat):Int) 128=(((UInt8.ofNat (m.val % 128+128)).toNat:Nat):Int):=by decide +kernel
theorem Dr (n:Nat):IntKind.u8.wrap (n:Int)=((n % 256:Nat):Int):=by simp [IntKind.wrap,IntKind.bits,IntKind.signed]
theorem u8or (n:Nat):bor .u8 (IntKind.u8.wrap (n:Int)) 128=(((UInt8.ofNat (n % 128+128)).toNat:Nat):Int):=by
 rw [Dr]
 have:=Nj ⟨n % 256,Nat.mod_lt _ (by decide)⟩
 rw [this]
 simp only []
 rw [show n % 256 % 128=n % 128 by omega]
theorem u8low {n:Nat} (h:¬ 127 < n):IntKind.u8.wrap (n:Int)=(((UInt8.ofNat n).toNat:Nat):Int):=by
 rw [Dr]
 simp
theorem shr7 (n:Nat):((n:Int)).fdiv (2 ^ (min (7:Int).toNat IntKind.u64.bits))=((n / 128:Nat):Int):=by
 rw [show (2:Int) ^ (min (7:Int).toNat IntKind.u64.bits)=128 from by decide,Int.fdiv_eq_ediv_of_nonneg _ (by decide)]
 omega
theorem bsb1 (v0:Int):bc Tryz.prog 79 1 [(0,.int .u8 v0)] 5 #[.int .u8 v0]:=fun w=>by kernel_rfl
theorem fe {n:Nat} (hn:n < 18446744073709551616):Spec Tryz.prog 222 #[.int .u64 (n:Int)] []
  fun F v M=>v≠.slice none 0 0/\M=rowR 5 1 v (vint n).length (bvs (vint n)) :: F:=by
 refine Spec.intro Tryz.func222 rfl rfl fun B F=>?_
 simp only [Tryz.ntmps222,List.cons_append,List.nil_append,env0,Nat.reduceAdd]
 have hlen:=gk hn
 refine .emp (A:=rowR 5 1 (.slice none 0 0) 0 (bvs [])) (rowR.nil _) ?_
 refine .sr (.assign (.z (.seq (.block ?_))))
 refine .loopA (σ:=Nat×aa×Value) (fun s=>[(0,.int .u64 (s.1:Int)),(2,s.2.2)]) (fun s=>rowR 5 1 s.2.2 s.2.1.length (bvs s.2.1) :: F) (fun s=>s.1 < 18446744073709551616/\s.2.1++vint s.1=vint n) (fun s=>s.1) (n,[],.slice none 0 0) ⟨hn,rfl⟩ ?_
 rintro s hs
 obtain ⟨m,bs,u⟩:=s
 obtain ⟨hm,hb⟩:=hs
 simp only at hm hb
 have hle:bs.length+(vint m).length<=10:=by rw [<- List.length_append,hb];exact hlen
 have hpos:=oh m
 refine .seq (.sr (.move ?_))
 refine .gtr (.z ?_)
 refine .cond rfl (fun hd=>?_) (fun hd=>?_)
 ·have hbig:127 < m:=by have h:(127:Int) < (m:Int):=of_decide_eq_true hd;omega
  refine .skip (.next (.block (.sr (.move (.move ?_)))))
  refine .cvt ?_ cx un5
  refine .or ?_
  refine .cast (d:=8) rfl (cI9 (u8or m)) ?_
  refine .buildS (fun b9=>?_) (bsb1 _)
  refine .append (m:=1) (news:=bvs [UInt8.ofNat (m % 128+128)]) so79 (by decide) (by repeat (first | exact .here | apply Rem.there | apply Repl.there | apply Mem.there)) (Reads.pt (cs:=(bvs [UInt8.ofNat (m % 128+128)]).toArray)) (by repeat (first | exact .here | apply Rem.there | apply Repl.there | apply Mem.there)) rfl (bo _) (by show bs.length+1<=maxLen;unfold maxLen;omega) (by show (bs.length+1) * 1<=140737488355328;omega) ⟨_,z5,rfl⟩ (fun v' hv'=>?_)
  refine .assign (.y (.move ?_))
  refine .shr ?_
  refine .cast (d:=12) rfl (cI9 (shr7 m)) ?_
  refine .assign (.nil (.blockNormal ?_))
  exact .back (m / 128,bs++[UInt8.ofNat (m % 128+128)],v') ⟨by show m / 128 < _;omega,by show (bs++[_])++vint (m / 128)=_;rw [List.append_assoc,<-hb,rk hbig];rfl⟩ (show m / 128 < m by omega) (hI:=by rw [show bs.length+1=(bs++[UInt8.ofNat (m % 128+128)]).length by simp,<-bj];exact Am.auto)
 ·have hlow:¬ 127 < m:=by have h:¬ (127:Int) < (m:Int):=of_decide_eq_false hd;omega
  refine .exit (.thenExit (.thenExit (.blockExit (?_))))
  refine .next (.sr (.move (.move ?_)))
  refine .cvt ?_ cx un5
  refine .cast (d:=15) rfl (cI9 (u8low hlow)) ?_
  refine .buildS (fun b16=>?_) (bsb1 _)
  refine .append (m:=1) (news:=bvs [UInt8.ofNat m]) so79 (by decide) (by repeat (first | exact .here | apply Rem.there | apply Repl.there | apply Mem.there)) (Reads.pt (cs:=(bvs [UInt8.ofNat m]).toArray)) (by repeat (first | exact .here | apply Rem.there | apply Repl.there | apply Mem.there)) rfl (bo _) (by show bs.length+1<=maxLen;unfold maxLen;omega) (by show (bs.length+1) * 1<=140737488355328;omega) ⟨_,z5,rfl⟩ (fun v' hv'=>?_)
  refine .assign (.z (.ret (?_)))
  have hfin:bvs bs++bvs [UInt8.ofNat m]=bvs (vint n):=by rw [<- bj,<-hb,ka hlow]
  have hk:bs.length+1=(vint n).length:=by rw [<- hb,ka hlow,List.length_append];rfl
  refine .to (A:=rowR 5 1 v' (bs.length+1) (bvs bs++bvs [UInt8.ofNat m])) (A':=rowR 5 1 v' (vint n).length (bvs (vint n))) (fun h hh=>by rw [<- hk,<-hfin];exact hh) ?_
  exact .ret1 (h1:=.tmp (t:=2) rfl) ⟨_,⟨fun h=>(by have:=(hv'.1 h).2;omega),rfl⟩,Am.auto⟩
def zigI (v:Int):Int:=bxor .u64 (IntKind.u64.wrap (IntKind.u64.wrap v * 2 ^ (min (1:Int).toNat IntKind.u64.bits))) (IntKind.u64.wrap (v.fdiv (2 ^ (min (63:Int).toNat IntKind.i64.bits))))
theorem Bu (x:Int):0<=IntKind.u64.wrap x/\IntKind.u64.wrap x < 18446744073709551616:=by
 simp only [IntKind.wrap,IntKind.bits,IntKind.signed]
 constructor
 ·exact Int.emod_nonneg _ (by decide)
 ·exact Int.emod_lt_of_pos _ (by decide)
theorem Dt (v:Int):0<=zigI v/\zigI v < 18446744073709551616:=Bu _
def zigN (v:Int):Nat:=(zigI v).toNat
theorem tv (v:Int):zigN v < 18446744073709551616:=by have:=Dt v;unfold zigN;omega
theorem Rk (v:Int):zigI v=((zigN v:Nat):Int):=by have:=Dt v;unfold zigN;omega
structure Rc where
 hk:Bool
 key:aa
 hv:Bool
 val:aa
 time:Int
 off:Int
def Rc.v (r:Rc):List Value:=[.bool r.hk,sv r.key,.bool r.hv,sv r.val,.int .i64 r.time,.int .i64 r.off]
theorem Rc.v_len (r:Rc):r.v.length=6:=rfl
def Rc.odd (r:Rc):Bool:=(!r.hk && !decide (r.key=[])) || (!r.hv && !decide (r.val=[])) || decide (r.time < 0) || decide (1125899906842624 < r.time) || decide (r.off < 0) || decide (100<=r.off)
def Rc.big (r:Rc):Bool:=decide ((2000:Int) < ((r.key.length:Nat):Int)) || decide ((2000:Int) < ((r.val.length:Nat):Int))
def ckE (r:Rc):Int:=if r.odd then 1 else if r.big then 2 else 0
theorem ck1 {r:Rc} (h:r.odd=true):(1:Int)=ckE r:=by unfold ckE;rw [if_pos h]
theorem ck2 {r:Rc} (h:r.odd=false) (h2:r.big=true):(2:Int)=ckE r:=by unfold ckE;rw [if_neg (by simp [h]),if_pos h2]
theorem ck0 {r:Rc} (h:r.odd=false) (h2:r.big=false):(0:Int)=ckE r:=by unfold ckE;rw [if_neg (by simp [h]),if_neg (by simp [h2])]
theorem Bv {v:Int}:Spec Tryz.prog 223 #[.int .i64 v] [] fun F u M=>u=.int .u64 ((zigN v:Nat):Int)/\M=F:=by
 refine Spec.intro Tryz.func223 rfl rfl fun B F=>?_
 simp only [Tryz.ntmps223,List.cons_append,List.nil_append,env0,Nat.reduceAdd]
 refine .sr (.assign (.x (.move ?_)))
 refine .cvt ?_ un3 cx
 refine .shl ?_
 refine .move ?_
 refine .shr ?_
 refine .cvt ?_ un3 cx
 refine .xor ?_
 refine .assign (.z (.ret (?_)))
 exact .ret1 (h1:=.tmp (t:=2) rfl) ⟨_,⟨cI9 (Rk v),rfl⟩,Am.auto⟩
theorem Jf {s:aa} (hs:s.length<=1073741824):Spec Tryz.prog 224 #[sv s] [] fun F v M=>v≠.slice none 0 0/\M=rowR 5 1 v ((vint s.length).length+s.length) (bvs (vint s.length++s)) :: F:=by
 refine Spec.intro Tryz.func224 rfl rfl fun B F=>?_
 simp only [Tryz.ntmps224,List.cons_append,List.nil_append,env0,Nat.reduceAdd]
 have hv10:=gk (n:=s.length) (by omega)
 refine .sr (.assign (.x (.move ?_)))
 refine .lenT _ ?_ st9
 refine .cvt ?_ un3 cx
 refine .cast (d:=5) (u:=.int .u64 ((s.length:Nat):Int)) rfl (cI9 (dy (by omega))) ?_
 refine .call (hc:=Tryz.call222) (sp:=fe (n:=s.length) (by omega)) (h:=?_)
 rintro _ _ ⟨hne,rfl⟩
 refine .move ?_
 refine .appendT s so79 st9 (by repeat (first | exact .here | apply Rem.there | apply Repl.there | apply Mem.there)) (by unfold maxLen;omega) (by omega) ⟨_,z5,rfl⟩ (fun v' hv'=>?_)
 refine .assign (.z (.ret (?_)))
 rw [<- bj]
 exact .ret1 (h1:=.tmp (t:=2) rfl) ⟨_,⟨fun h=>hne (hv'.1 h).1,rfl⟩,Am.auto⟩
theorem xv {r:Rc}:Spec Tryz.prog 162 #[.agg r.v.toArray] [] fun F v M=>v=.int .i64 (ckE r)/\M=F:=by
 refine Spec.intro Tryz.func162 rfl rfl fun B F=>?_
 simp only [Tryz.ntmps162,List.cons_append,List.nil_append,env0,Nat.reduceAdd]
 obtain ⟨hk,key,hv,val,time,off⟩:=r
 refine .sr ?_
 refine .box fun b1=>?_
 refine .assign (.z (.seq (.block (.seq (.seq ?_)))))
 refine .join (σ:=Bool) (fun b=>[(1,.pointer (some ⟨b1,0,none⟩)),(3,.bool b)]) (fun _=>[pt b1 (.cells (Rc.v ⟨hk,key,hv,val,time,off⟩).toArray 95 (0,0))]++F) (fun b=>b=(!hk && !decide (key=[]))) ?_ ?_
 ·refine .region ?_
  refine .fa ?_ zr
  refine .ld ?_ sc4
  refine .not ?_
  refine .move ?_
  refine .split (t:=7) rfl (fun hg=>?_) (fun hg=>?_)
  ·refine .gT ?_
   refine .fa ?_ qn
   refine .gT ?_
   refine .ld ?_ sc9
   refine .gT ?_
   refine .neS _ _ ?_
   refine .pickT (.assign (.nil ?_))
   exact .joined (!decide (key=[])) (by simp only [hg,Bool.true_and])
  ·refine .gF (.gF (.gF (.pickF (.assign (.nil ?_)))))
   exact .joined false (by simp only [hg,Bool.false_and])
 ·rintro a ea
  refine .next ?_
  refine .cond rfl (fun ha=>?_) (fun ha=>?_)
  ·refine .skip (.next ?_)
   refine .condT rfl (cB9 (ha)) ?_
   refine .sr (.assign (.z ?_))
   refine .ret (.blockRet (.thenRet (?_)))
   exact .ret1 (h1:=.tmp (t:=2) rfl) ⟨_,⟨cI9 (ck1 (by simp only [Rc.odd,<-ea,ha,Bool.or_true,Bool.true_or])),rfl⟩,Am.auto⟩
  ·refine .seq ?_
   refine .join (σ:=Bool) (fun b=>[(1,.pointer (some ⟨b1,0,none⟩)),(3,.bool b)]) (fun _=>[pt b1 (.cells (Rc.v ⟨hk,key,hv,val,time,off⟩).toArray 95 (0,0))]++F) (fun b=>b=(!hv && !decide (val=[]))) ?_ ?_
   ·refine .region ?_
    refine .fa ?_ zs
    refine .ld ?_ sc4
    refine .not ?_
    refine .move ?_
    refine .split (t:=15) rfl (fun hg=>?_) (fun hg=>?_)
    ·refine .gT ?_
     refine .fa ?_ vq
     refine .gT ?_
     refine .ld ?_ sc9
     refine .gT ?_
     refine .neS _ _ ?_
     refine .pickT (.assign (.nil ?_))
     exact .joined (!decide (val=[])) (by simp only [hg,Bool.true_and])
    ·refine .gF (.gF (.gF (.pickF (.assign (.nil ?_)))))
     exact .joined false (by simp only [hg,Bool.false_and])
   ·rintro b eb
    refine .next ?_
    refine .cond rfl (fun hb=>?_) (fun hb=>?_)
    ·refine .skip (.next ?_)
     refine .condT rfl (cB9 (hb)) ?_
     refine .sr (.assign (.z ?_))
     refine .ret (.blockRet (.thenRet (?_)))
     exact .ret1 (h1:=.tmp (t:=2) rfl) ⟨_,⟨cI9 (ck1 (by simp only [Rc.odd,<-eb,hb,Bool.or_true,Bool.true_or])),rfl⟩,Am.auto⟩
    ·refine .sr ?_
     refine .fa ?_ Dp
     refine .ld ?_ sc3
     refine .lss ?_
     refine .assign (.z ?_)
     refine .cond rfl (fun h3=>?_) (fun h3=>?_)
     ·refine .skip (.next ?_)
      refine .condT rfl (cB9 (h3)) ?_
      refine .sr (.assign (.z ?_))
      refine .ret (.blockRet (.thenRet (?_)))
      exact .ret1 (h1:=.tmp (t:=2) rfl) ⟨_,⟨cI9 (ck1 (by simp only [Rc.odd,h3,Bool.or_true,Bool.true_or])),rfl⟩,Am.auto⟩
     ·refine .sr ?_
      refine .fa ?_ Dp
      refine .ld ?_ sc3
      refine .gtr ?_
      refine .assign (.z ?_)
      refine .cond rfl (fun h4=>?_) (fun h4=>?_)
      ·refine .skip (.next ?_)
       refine .condT rfl (cB9 (h4)) ?_
       refine .sr (.assign (.z ?_))
       refine .ret (.blockRet (.thenRet (?_)))
       exact .ret1 (h1:=.tmp (t:=2) rfl) ⟨_,⟨cI9 (ck1 (by simp only [Rc.odd,h4,Bool.or_true,Bool.true_or])),rfl⟩,Am.auto⟩
      ·refine .sr ?_
       refine .fa ?_ og
       refine .ld ?_ sc3
       refine .lss ?_
       refine .assign (.z ?_)
       refine .cond rfl (fun h5=>?_) (fun h5=>?_)
       ·refine .skip (.next ?_)
        refine .condT rfl (cB9 (h5)) ?_
        refine .sr (.assign (.z ?_))
        refine .ret (.blockRet (.thenRet (?_)))
        exact .ret1 (h1:=.tmp (t:=2) rfl) ⟨_,⟨cI9 (ck1 (by simp only [Rc.odd,h5,Bool.or_true,Bool.true_or])),rfl⟩,Am.auto⟩
       ·refine .region ?_
        refine .fa ?_ og
        refine .ld ?_ sc3
        refine .geq ?_
        refine .assign (.z ?_)
        refine .cond rfl (fun h6=>?_) (fun h6=>?_)
        ·refine .sr (.assign (.z ?_))
         refine .ret (.blockRet (.thenRet (?_)))
         exact .ret1 (h1:=.tmp (t:=2) rfl) ⟨_,⟨cI9 (ck1 (by simp only [Rc.odd,h6,Bool.or_true,Bool.true_or])),rfl⟩,Am.auto⟩
        ·have hodd:Rc.odd ⟨hk,key,hv,val,time,off⟩=false:=by simp only [Rc.odd,<-ea,ha,<-eb,hb,h3,h4,h5,h6,Bool.or_false]
         refine .seq (.sr ?_)
         refine .fa ?_ qn
         refine .ld ?_ sc9
         refine .lenT _ ?_ st9
         refine .gtr ?_
         refine .assign (.z ?_)
         refine .cond rfl (fun h7=>?_) (fun h7=>?_)
         ·refine .skip (.next ?_)
          refine .condT rfl (cB9 (h7)) ?_
          refine .sr (.assign (.z ?_))
          refine .ret (.blockRet (.thenRet (?_)))
          exact .ret1 (h1:=.tmp (t:=2) rfl) ⟨_,⟨cI9 (ck2 hodd (by simp only [Rc.big,h7,Bool.true_or])),rfl⟩,Am.auto⟩
         ·refine .region ?_
          refine .fa ?_ vq
          refine .ld ?_ sc9
          refine .lenT _ ?_ st9
          refine .gtr ?_
          refine .assign (.z ?_)
          refine .cond rfl (fun h8=>?_) (fun h8=>?_)
          ·refine .sr (.assign (.z ?_))
           refine .ret (.blockRet (.thenRet (?_)))
           exact .ret1 (h1:=.tmp (t:=2) rfl) ⟨_,⟨cI9 (ck2 hodd (by simp only [Rc.big,h7,h8,Bool.or_true])),rfl⟩,Am.auto⟩
          ·refine .skip (.blockNormal (.next (.sr (.assign (.z ?_)))))
           refine .ret (?_)
           exact .ret1 (h1:=.tmp (t:=2) rfl) ⟨_,⟨cI9 (ck0 hodd (by simp only [Rc.big,h7,h8,Bool.or_false])),rfl⟩,Am.auto⟩
theorem Jg {l:List (Value×aa)} {i:Nat} {pv:Value} {px:aa} (h:l[i]?=some (pv,px)):(l.take (i+1)).flatMap (·.2)=(l.take i).flatMap (·.2)++px/\((l.take i).flatMap (·.2)).length+px.length<=(l.flatMap (·.2)).length:=by
 have h1:(l.take (i+1)).flatMap (·.2)=(l.take i).flatMap (·.2)++px:=by
  rw [List.take_add_one,h]
  simp
 refine ⟨h1,?_⟩
 have h2:(l.flatMap (·.2)).length=((l.take (i+1)).flatMap (·.2)).length+((l.drop (i+1)).flatMap (·.2)).length:=by
  rw [<- List.length_append,<-List.flatMap_append,List.take_append_drop]
 rw [h1,List.length_append] at h2
 omega
theorem Rn {R:HP} {A:Addr} {c:Nat} {bl l:List (Value×aa)} (hR:Reads R (some A) (l.map (·.1))) (hl:∀ p∈l,p∈bl) (hk:l.length<=1073741824) (hn:(l.flatMap (·.2)).length<=1073741824):Spec Tryz.prog 225 #[.slice (some A) l.length c] [R,bi bl]
  fun F v M=>M=rowR 5 1 v (l.flatMap (·.2)).length (bvs (l.flatMap (·.2))) :: R :: bi bl :: F:=by
 refine Spec.intro Tryz.func225 rfl rfl fun B F=>?_
 simp only [Tryz.ntmps225,List.cons_append,List.nil_append,env0,Nat.reduceAdd]
 obtain ⟨ab,ao,asp⟩:=A
 have hsp:asp=none:=hR.1
 subst hsp
 refine .emp (A:=rowR 5 1 (.slice none 0 0) 0 (bvs [])) (rowR.nil _) ?_
 refine .sr (.assign (.z (.seq (.sr (.move ?_)))))
 refine .lenS ?_ sl301
 refine .move (.z (.block ?_))
 refine .loopA (σ:=Nat×Value) (fun s=>[(2,s.2),(5,.slice (some ⟨ab,ao,none⟩) l.length c),(6,.int .i64 (l.length:Int)),(7,.int .i64 ((s.1:Nat):Int))]) (fun s=>rowR 5 1 s.2 ((l.take s.1).flatMap (·.2)).length (bvs ((l.take s.1).flatMap (·.2))) :: R :: bi bl :: F) (fun s=>s.1<=l.length) (fun s=>l.length - s.1) (0,.slice none 0 0) (Nat.zero_le _) ?_
 rintro s hs
 obtain ⟨i,u⟩:=s
 simp only at hs
 refine .sr ?_
 refine .lss (.z (.seq ?_))
 refine .cond rfl (fun hd=>?_) (fun hd=>?_)
 ·have hlt:i < l.length:=by have h:(i:Int) < (l.length:Int):=of_decide_eq_true hd;omega
  obtain ⟨pv,px,hp⟩:∃ pv px,l[i]?=some (pv,px):=⟨_,_,List.getElem?_eq_getElem hlt⟩
  have hmem:(pv,px)∈bl:=hl _ (List.mem_of_getElem? hp)
  obtain ⟨hf1,hf2⟩:=Jg hp
  refine .fact (jr hmem) fun ⟨gb,cb,hvs,hcb⟩=>?_
  subst hvs
  refine .skip (.next (.seq (.block (.sr ?_))))
  refine .idx1 ?_ Rj
  refine .ldR (i:=i) ?_ sc79 hR (by rw [List.getElem?_map,hp];rfl)
  refine .assign (.y (.move (.move ?_)))
  refine .append (m:=px.length) (news:=bvs px) (R:=bi bl) so79 (by decide) (by repeat (first | exact .here | apply Rem.there | apply Repl.there | apply Mem.there)) (Reads.blob hmem) (by repeat (first | exact .here | apply Rem.there | apply Repl.there | apply Mem.there)) (by rw [ag,Nat.mul_one]) (bo _) (by show ((l.take i).flatMap (·.2)).length+px.length<=maxLen;unfold maxLen;omega) (by show (((l.take i).flatMap (·.2)).length+px.length) * 1<=140737488355328;omega) ⟨_,z5,rfl⟩ (fun v' hv'=>?_)
  refine .assign (.nil (.blockNormal (.next (.region ?_))))
  refine .add ?_
  refine .move (.nil ?_)
  exact .back (i+1,v') (by show i+1<=l.length;omega) (show l.length - (i+1) < l.length - i by omega) (hI:=by rw [show (i+1,v').1=i+1 from rfl,hf1,List.length_append,bj];exact Am.auto)
 ·have hge:i=l.length:=by have h:¬ (i:Int) < (l.length:Int):=of_decide_eq_false hd;omega
  subst hge
  rw [List.take_length]
  refine .exit (.thenExit (.thenExit (.blockExit (?_))))
  refine .next (.sr (.move (.assign (.z (.ret (?_))))))
  exact .ret1 (h1:=.tmp (t:=2) rfl) ⟨_,rfl,Am.auto⟩
def flN (a b:Bool):Nat:=(if a then 1 else 0)+(if b then 2 else 0)
def flB (r:Rc):aa:=[UInt8.ofNat (flN r.hk r.hv)]
def txtB (s:aa):aa:=vint s.length++s
def encB (r:Rc) (first:Int):aa:=flB r++(vint r.off.toNat++(vint (zigN (r.time - first))++((if r.hk then txtB r.key else [])++(if r.hv then txtB r.val else []))))
def encE (r:Rc) (first:Int):Int:=if ckE r=0 then (if first < 0 ∨ 1125899906842624 < first then 1 else 0) else ckE r
theorem zt {r:Rc} (h:ckE r=0):(r.key.length<=2000/\r.val.length<=2000)/\(0<=r.time/\r.time<=1125899906842624)/\(0<=r.off/\r.off < 100):=by
 unfold ckE at h
 by_cases h1:r.odd=true
 ·rw [if_pos h1] at h;cases h
 ·rw [if_neg h1] at h
  by_cases h2:r.big=true
  ·rw [if_pos h2] at h;cases h
  ·simp only [Rc.odd,Rc.big,Bool.or_eq_true,decide_eq_true_eq] at h1 h2
   omega
theorem xw {r:Rc} {first:Int} (h:ckE r=0):(encB r first).length<=4100:=by
 obtain ⟨⟨h1,h2⟩,h3,h4⟩:=zt h
 have a:=gk (n:=r.off.toNat) (by omega)
 have b:=gk (tv (r.time - first))
 have c:=gk (n:=r.key.length) (by omega)
 have d:=gk (n:=r.val.length) (by omega)
 unfold encB flB txtB
 simp only [List.length_append,List.length_cons,List.length_nil]
 split<;>split<;>simp only [List.length_append,List.length_nil]<;>omega
theorem Nk (A0 A1 A2:Option Addr) (n0 c0 n1 c1 n2 c2:Nat):bc Tryz.prog 301 3 [(0,.slice A0 n0 c0),(1,.slice A1 n1 c1),(2,.slice A2 n2 c2)] 79 #[.slice A0 n0 c0,.slice A1 n1 c1,.slice A2 n2 c2]:=fun w=>by kernel_rfl
theorem T8 (A0:Option Addr) (n0 c0:Nat):bc Tryz.prog 301 1 [(0,.slice A0 n0 c0)] 79 #[.slice A0 n0 c0]:=fun w=>by kernel_rfl
theorem Jh {r:Rc} {first:Int}:Spec Tryz.prog 163 #[.agg r.v.toArray,.int .i64 first] []
  fun F v M=>(encE r first≠0/\v=.tuple #[.slice none 0 0,.int .i64 (encE r first)]/\M=F) ∨
   (ckE r=0/\encE r first=0/\∃ u,v=.tuple #[u,.int .i64 0]/\M=rowR 5 1 u (encB r first).length (bvs (encB r first)) :: F):=by
 refine Spec.intro Tryz.func163 rfl rfl fun B F=>?_
 simp only [Tryz.ntmps163,List.cons_append,List.nil_append,env0,Nat.reduceAdd]
 obtain ⟨hk,key,hv,val,time,off⟩:=r
 refine .sr ?_
 refine .box fun b2=>?_
 refine .assign (.assign (.z (.seq (.sr ?_))))
 refine .ldA ?_ ji
 refine .call (hc:=Tryz.call162) (sp:=xv (r:=⟨hk,key,hv,val,time,off⟩)) (h:=?_)
 rintro _ _ ⟨rfl,rfl⟩
 refine .assign (.x (.move ?_))
 refine .nei (.z ?_)
 refine .cond rfl (fun he=>?_) (fun he=>?_)
 ·have hne:ckE ⟨hk,key,hv,val,time,off⟩≠0:=of_decide_eq_true (by simpa using he)
  have hE:encE ⟨hk,key,hv,val,time,off⟩ first=ckE ⟨hk,key,hv,val,time,off⟩:=by unfold encE;rw [if_neg hne]
  refine .sr (.move (.assign (.assign (.z ?_))))
  refine .ret (.thenRet (?_))
  exact .ret2 (h1:=.tmp (t:=4) rfl) (h2:=.tmp (t:=5) rfl) ⟨_,.inl ⟨by rw [hE];exact hne,by rw [hE],rfl⟩,Am.auto⟩
 ·have hck:ckE ⟨hk,key,hv,val,time,off⟩=0:=by simpa using he
  obtain ⟨⟨hkl,hvl⟩,ht,ho⟩:=zt hck
  simp only at hkl hvl ht ho
  refine .skip (.next (.seq (.sr (.move ?_))))
  refine .lss ?_
  refine .move ?_
  refine .split (t:=16) rfl (fun hf1=>?_) (fun hf1=>?_)
  ·have hlt:first < 0:=of_decide_eq_true hf1
   have hE:encE ⟨hk,key,hv,val,time,off⟩ first=1:=by unfold encE;rw [if_pos hck,if_pos (.inl hlt)]
   refine .gF (.gF (.pickT (.z ?_)))
   refine .condT rfl rfl ?_
   refine .sr (.assign (.assign (.z ?_)))
   refine .ret (.thenRet (?_))
   exact .ret2 (h1:=.tmp (t:=4) rfl) (h2:=.tmp (t:=5) rfl) ⟨_,.inl ⟨by rw [hE];decide,by rw [hE],rfl⟩,Am.auto⟩
  ·have hge:¬ first < 0:=of_decide_eq_false hf1
   refine .gT (.move (.gT ?_))
   refine .gtr ?_
   refine .pickF (.z ?_)
   refine .cond rfl (fun hf2=>?_) (fun hf2=>?_)
   ·have hlt:1125899906842624 < first:=of_decide_eq_true hf2
    have hE:encE ⟨hk,key,hv,val,time,off⟩ first=1:=by unfold encE;rw [if_pos hck,if_pos (.inr hlt)]
    refine .sr (.assign (.assign (.z ?_)))
    refine .ret (.thenRet (?_))
    exact .ret2 (h1:=.tmp (t:=4) rfl) (h2:=.tmp (t:=5) rfl) ⟨_,.inl ⟨by rw [hE];decide,by rw [hE],rfl⟩,Am.auto⟩
   ·have hle:¬ 1125899906842624 < first:=of_decide_eq_false hf2
    have hE:encE ⟨hk,key,hv,val,time,off⟩ first=0:=by unfold encE;rw [if_pos hck,if_neg (by omega)]
    refine .skip (.next (.sr (.assign (.z (.seq (.sr ?_))))))
    refine .fa ?_ zr
    refine .ld ?_ sc4
    refine .z ?_
    refine .join (σ:=Int) (fun s=>[(1,.int .i64 first),(2,.pointer (some ⟨b2,0,none⟩)),(7,.int .u8 s)]) (fun _=>[pt b2 (.cells #[.bool hk,sv key,.bool hv,sv val,.int .i64 time,.int .i64 off] 95 (0,0))]++F) (fun s=>s=if hk then 1 else 0) ?_ ?_
    ·refine .cond rfl (fun h1=>?_) (fun h1=>?_)
     ·refine .region (.move ?_)
      refine .or ?_
      refine .assign (.nil ?_)
      exact .joined (bor .u8 0 1) (by rw [show hk=true from h1];decide)
     ·refine .skip ?_
      exact .joined 0 (by rw [show hk=false from h1];rfl)
    ·rintro s1 hs1
     refine .next (.seq (.sr ?_))
     refine .fa ?_ zs
     refine .ld ?_ sc4
     refine .z ?_
     refine .join (σ:=Int) (fun s=>[(1,.int .i64 first),(2,.pointer (some ⟨b2,0,none⟩)),(7,.int .u8 s)]) (fun _=>[pt b2 (.cells #[.bool hk,sv key,.bool hv,sv val,.int .i64 time,.int .i64 off] 95 (0,0))]++F) (fun s=>s=(((UInt8.ofNat (flN hk hv)).toNat:Nat):Int)) ?_ ?_
     ·refine .cond rfl (fun h2=>?_) (fun h2=>?_)
      ·refine .region (.move ?_)
       refine .or ?_
       refine .assign (.nil ?_)
       exact .joined (bor .u8 s1 2) (by rw [show hv=true from h2,hs1];cases hk<;>decide)
      ·refine .skip ?_
       exact .joined s1 (by rw [show hv=false from h2,hs1];cases hk<;>decide)
     ·rintro s2 hs2
      refine .next (.seq ?_)
      subst hs2
      have hoffc:IntKind.u64.wrap off=((off.toNat:Nat):Int):=by rw [show off=((off.toNat:Nat):Int) by omega,dy (by omega)];rfl
      refine .blobsNil ?_
      refine .join (σ:=Value×List (Value×aa)) (fun s=>[(2,.pointer (some ⟨b2,0,none⟩)),(8,s.1)]) (fun s=>[pt b2 (.cells #[.bool hk,sv key,.bool hv,sv val,.int .i64 time,.int .i64 off] 95 (0,0)),rowR 79 1 s.1 s.2.length (s.2.map (·.1)),bi s.2.reverse]++F) (fun s=>s.2.map (·.2)=[flB ⟨hk,key,hv,val,time,off⟩,vint off.toNat,vint (zigN (time - first))]/\s.1≠.slice none 0 0) ?_ ?_
      ·refine .dr ([pt b2 (.cells #[.bool hk,sv key,.bool hv,sv val,.int .i64 time,.int .i64 off] 95 (0,0))]) [] 14 mixed .autoJ ?_
       refine .tk 0 rfl .move ?_
       refine .tk 2 rfl (.fa og) ?_
       refine .tk 3 rfl (.ld sc3) ?_
       refine .tk 4 rfl ((Qt.cvt un3 cx).eq (cI9 hoffc)) ?_
       refine .tk 6 rfl (.fa Dp) ?_
       refine .tk 7 rfl (.ld sc3) ?_
       refine .tk 8 rfl .move ?_
       refine .tk 9 rfl .sub ?_
       refine .tw 1 5 rfl rfl (fun hnp=>?_) (fun hnp=>?_)
       ·refine .buildS (fun b29=>?_) (bsb1 _)
        refine .nil (.wa hnp ?_)
        refine .on 5 rfl fun hnp=>?_
        refine .call (hc:=Tryz.call222) (sp:=fe (n:=off.toNat) (by omega)) (h:=?_)
        rintro v5 _ ⟨hn5,rfl⟩
        refine .toE (br hn5) ?_
        rintro ⟨g5,q5⟩ ⟨rfl,h5a,h5b,_⟩
        refine .nil (.wa hnp ?_)
        refine .on 10 rfl fun hnp=>?_
        refine .call (hc:=Tryz.call223) (sp:=Bv (v:=time - first)) (h:=?_)
        rintro _ _ ⟨rfl,rfl⟩
        refine .nil (.wa hnp ?_)
        refine .on 11 rfl fun hnp=>?_
        refine .call (hc:=Tryz.call222) (sp:=fe (n:=zigN (time - first)) (tv _)) (h:=?_)
        rintro v11 _ ⟨hn11,rfl⟩
        refine .toE (br hn11) ?_
        rintro ⟨g11,q11⟩ ⟨rfl,h11a,h11b,_⟩
        refine .nil (.wa hnp ?_)
        refine .on 12 rfl fun hnp=>?_
        refine .buildS (fun b40=>?_) (Nk _ _ _ _ _ _ _ _ _)
        refine .nil (.wa hnp ?_)
        refine .tk 13 rfl .assign ?_
        refine .fin ?_
        refine .to (A':=buf b40 79 3 [.slice (some ⟨b29,0,none⟩) 1 1,.slice (some ⟨g5,0,none⟩) (vint off.toNat).length q5,.slice (some ⟨g11,0,none⟩) (vint (zigN (time - first))).length q11]) (c6 rfl) ?_
        refine .to (di (cap:=3) (by decide)) ?_
        refine .to (A:=pt b29 (.cells #[.int .u8 (((UInt8.ofNat (flN hk hv)).toNat:Nat):Int)] 5 (0,0))) (A':=buf b29 5 1 (bvs (flB ⟨hk,key,hv,val,time,off⟩))) (c6 rfl) ?_
        refine .blobsAdd (xs:=flB ⟨hk,key,hv,val,time,off⟩) (k:=1) (Nat.le_refl 1) ?_
        refine .blobsAdd (xs:=vint off.toNat) (k:=q5) h5a ?_
        refine .blobsAdd (xs:=vint (zigN (time - first))) (k:=q11) h11a ?_
        exact .joined (.slice (some ⟨b40,0,none⟩) 3 3,[(.slice (some ⟨b29,0,none⟩) 1 1,flB ⟨hk,key,hv,val,time,off⟩),(.slice (some ⟨g5,0,none⟩) (vint off.toNat).length q5,vint off.toNat),(.slice (some ⟨g11,0,none⟩) (vint (zigN (time - first))).length q11,vint (zigN (time - first)))]) ⟨rfl,by simp⟩
       ·refine .call (hc:=Tryz.call222) (sp:=fe (n:=off.toNat) (by omega)) (h:=?_)
        rintro v5 _ ⟨hn5,rfl⟩
        refine .toE (br hn5) ?_
        rintro ⟨g5,q5⟩ ⟨rfl,h5a,h5b,_⟩
        refine .nil (.wa hnp ?_)
        refine .tw 1 10 rfl rfl (fun hnp=>?_) (fun hnp=>?_)
        ·refine .buildS (fun b29=>?_) (bsb1 _)
         refine .nil (.wa hnp ?_)
         refine .on 10 rfl fun hnp=>?_
         refine .call (hc:=Tryz.call223) (sp:=Bv (v:=time - first)) (h:=?_)
         rintro _ _ ⟨rfl,rfl⟩
         refine .nil (.wa hnp ?_)
         refine .on 11 rfl fun hnp=>?_
         refine .call (hc:=Tryz.call222) (sp:=fe (n:=zigN (time - first)) (tv _)) (h:=?_)
         rintro v11 _ ⟨hn11,rfl⟩
         refine .toE (br hn11) ?_
         rintro ⟨g11,q11⟩ ⟨rfl,h11a,h11b,_⟩
         refine .nil (.wa hnp ?_)
         refine .on 12 rfl fun hnp=>?_
         refine .buildS (fun b40=>?_) (Nk _ _ _ _ _ _ _ _ _)
         refine .nil (.wa hnp ?_)
         refine .tk 13 rfl .assign ?_
         refine .fin ?_
         refine .to (A':=buf b40 79 3 [.slice (some ⟨b29,0,none⟩) 1 1,.slice (some ⟨g5,0,none⟩) (vint off.toNat).length q5,.slice (some ⟨g11,0,none⟩) (vint (zigN (time - first))).length q11]) (c6 rfl) ?_
         refine .to (di (cap:=3) (by decide)) ?_
         refine .to (A:=pt b29 (.cells #[.int .u8 (((UInt8.ofNat (flN hk hv)).toNat:Nat):Int)] 5 (0,0))) (A':=buf b29 5 1 (bvs (flB ⟨hk,key,hv,val,time,off⟩))) (c6 rfl) ?_
         refine .blobsAdd (xs:=flB ⟨hk,key,hv,val,time,off⟩) (k:=1) (Nat.le_refl 1) ?_
         refine .blobsAdd (xs:=vint off.toNat) (k:=q5) h5a ?_
         refine .blobsAdd (xs:=vint (zigN (time - first))) (k:=q11) h11a ?_
         exact .joined (.slice (some ⟨b40,0,none⟩) 3 3,[(.slice (some ⟨b29,0,none⟩) 1 1,flB ⟨hk,key,hv,val,time,off⟩),(.slice (some ⟨g5,0,none⟩) (vint off.toNat).length q5,vint off.toNat),(.slice (some ⟨g11,0,none⟩) (vint (zigN (time - first))).length q11,vint (zigN (time - first)))]) ⟨rfl,by simp⟩
        ·refine .call (hc:=Tryz.call223) (sp:=Bv (v:=time - first)) (h:=?_)
         rintro _ _ ⟨rfl,rfl⟩
         refine .nil (.wa hnp ?_)
         refine .tw 1 11 rfl rfl (fun hnp=>?_) (fun hnp=>?_)
         ·refine .buildS (fun b29=>?_) (bsb1 _)
          refine .nil (.wa hnp ?_)
          refine .on 11 rfl fun hnp=>?_
          refine .call (hc:=Tryz.call222) (sp:=fe (n:=zigN (time - first)) (tv _)) (h:=?_)
          rintro v11 _ ⟨hn11,rfl⟩
          refine .toE (br hn11) ?_
          rintro ⟨g11,q11⟩ ⟨rfl,h11a,h11b,_⟩
          refine .nil (.wa hnp ?_)
          refine .on 12 rfl fun hnp=>?_
          refine .buildS (fun b40=>?_) (Nk _ _ _ _ _ _ _ _ _)
          refine .nil (.wa hnp ?_)
          refine .tk 13 rfl .assign ?_
          refine .fin ?_
          refine .to (A':=buf b40 79 3 [.slice (some ⟨b29,0,none⟩) 1 1,.slice (some ⟨g5,0,none⟩) (vint off.toNat).length q5,.slice (some ⟨g11,0,none⟩) (vint (zigN (time - first))).length q11]) (c6 rfl) ?_
          refine .to (di (cap:=3) (by decide)) ?_
          refine .to (A:=pt b29 (.cells #[.int .u8 (((UInt8.ofNat (flN hk hv)).toNat:Nat):Int)] 5 (0,0))) (A':=buf b29 5 1 (bvs (flB ⟨hk,key,hv,val,time,off⟩))) (c6 rfl) ?_
          refine .blobsAdd (xs:=flB ⟨hk,key,hv,val,time,off⟩) (k:=1) (Nat.le_refl 1) ?_
          refine .blobsAdd (xs:=vint off.toNat) (k:=q5) h5a ?_
          refine .blobsAdd (xs:=vint (zigN (time - first))) (k:=q11) h11a ?_
          exact .joined (.slice (some ⟨b40,0,none⟩) 3 3,[(.slice (some ⟨b29,0,none⟩) 1 1,flB ⟨hk,key,hv,val,time,off⟩),(.slice (some ⟨g5,0,none⟩) (vint off.toNat).length q5,vint off.toNat),(.slice (some ⟨g11,0,none⟩) (vint (zigN (time - first))).length q11,vint (zigN (time - first)))]) ⟨rfl,by simp⟩
         ·refine .call (hc:=Tryz.call222) (sp:=fe (n:=zigN (time - first)) (tv _)) (h:=?_)
          rintro v11 _ ⟨hn11,rfl⟩
          refine .toE (br hn11) ?_
          rintro ⟨g11,q11⟩ ⟨rfl,h11a,h11b,_⟩
          refine .nil (.wa hnp ?_)
          refine .on 1 rfl fun hnp=>?_
          refine .buildS (fun b29=>?_) (bsb1 _)
          refine .nil (.wa hnp ?_)
          refine .on 12 rfl fun hnp=>?_
          refine .buildS (fun b40=>?_) (Nk _ _ _ _ _ _ _ _ _)
          refine .nil (.wa hnp ?_)
          refine .tk 13 rfl .assign ?_
          refine .fin ?_
          refine .to (A':=buf b40 79 3 [.slice (some ⟨b29,0,none⟩) 1 1,.slice (some ⟨g5,0,none⟩) (vint off.toNat).length q5,.slice (some ⟨g11,0,none⟩) (vint (zigN (time - first))).length q11]) (c6 rfl) ?_
          refine .to (di (cap:=3) (by decide)) ?_
          refine .to (A:=pt b29 (.cells #[.int .u8 (((UInt8.ofNat (flN hk hv)).toNat:Nat):Int)] 5 (0,0))) (A':=buf b29 5 1 (bvs (flB ⟨hk,key,hv,val,time,off⟩))) (c6 rfl) ?_
          refine .blobsAdd (xs:=flB ⟨hk,key,hv,val,time,off⟩) (k:=1) (Nat.le_refl 1) ?_
          refine .blobsAdd (xs:=vint off.toNat) (k:=q5) h5a ?_
          refine .blobsAdd (xs:=vint (zigN (time - first))) (k:=q11) h11a ?_
          exact .joined (.slice (some ⟨b40,0,none⟩) 3 3,[(.slice (some ⟨b29,0,none⟩) 1 1,flB ⟨hk,key,hv,val,time,off⟩),(.slice (some ⟨g5,0,none⟩) (vint off.toNat).length q5,vint off.toNat),(.slice (some ⟨g11,0,none⟩) (vint (zigN (time - first))).length q11,vint (zigN (time - first)))]) ⟨rfl,by simp⟩
      ·rintro s3 hs3
       refine .next (.seq (.sr ?_))
       refine .fa ?_ zr
       refine .ld ?_ sc4
       refine .z ?_
       refine .join (σ:=Value×List (Value×aa)) (fun s=>[(2,.pointer (some ⟨b2,0,none⟩)),(8,s.1)]) (fun s=>[pt b2 (.cells #[.bool hk,sv key,.bool hv,sv val,.int .i64 time,.int .i64 off] 95 (0,0)),rowR 79 1 s.1 s.2.length (s.2.map (·.1)),bi s.2.reverse]++F) (fun s=>s.2.map (·.2)=[flB ⟨hk,key,hv,val,time,off⟩,vint off.toNat,vint (zigN (time - first))]++(if hk then [txtB key] else [])/\s.1≠.slice none 0 0) ?_ ?_
       ·refine .cond rfl (fun hk=>?_) (fun hk=>?_)
        ·obtain ⟨lv,l⟩:=s3
         obtain ⟨hl,hnn⟩:=hs3
         simp only at hl hnn
         have hll:l.length<=4:=by have:=congrArg List.length hl;simp at this;omega
         refine .region (.move ?_)
         refine .fa ?_ qn
         refine .ld ?_ sc9
         refine .call (hc:=Tryz.call224) (sp:=Jf (s:=key) (by omega)) (h:=?_)
         rintro vt _ ⟨hnt,rfl⟩
         refine .toE (br hnt) ?_
         rintro ⟨gt,qt⟩ ⟨rfl,hta,htb,htc⟩
         refine .to (A':=buf gt 5 qt (bvs (txtB key))) (fun h hh=>hh) ?_
         have htl:(txtB key).length=(vint (key).length).length+(key).length:=List.length_append
         refine .blobsAdd (xs:=txtB key) (k:=qt) (by omega) ?_
         refine .buildS (fun b47=>?_) (T8 _ _ _)
         refine .append (m:=1) (news:=[.slice (some ⟨gt,0,none⟩) ((vint (key).length).length+(key).length) qt]) Rj (by decide) (by repeat (first | exact .here | apply Rem.there | apply Repl.there | apply Mem.there)) (Reads.pt (cs:=#[.slice (some ⟨gt,0,none⟩) ((vint (key).length).length+(key).length) qt])) (by repeat (first | exact .here | apply Rem.there | apply Repl.there | apply Mem.there)) rfl (by simp [Value.single]) (by show l.length+1<=maxLen;unfold maxLen;omega) (by show (l.length+1) * 24<=140737488355328;omega) ⟨_,z79,rfl⟩ (fun v' hv'=>?_)
         refine .assign (.nil ?_)
         rw [<- htl]
         exact .joined (v',l++[(.slice (some ⟨gt,0,none⟩) (txtB key).length qt,txtB key)]) ⟨by simp only [List.map_append,hl,hk,if_true];rfl,fun h=>(by have:=(hv'.1 h).2;omega)⟩ (hI:=by simp only [List.length_append,List.length_cons,List.length_nil,List.map_append,List.map_cons,List.map_nil,List.reverse_append,List.reverse_cons,List.reverse_nil,List.nil_append,List.cons_append];exact Am.auto)
        ·refine .skip ?_
         exact .joined s3 ⟨by rw [hs3.1,hk];simp,hs3.2⟩
       ·rintro sk hsk
        refine .next (.seq (.sr ?_))
        refine .fa ?_ zs
        refine .ld ?_ sc4
        refine .z ?_
        refine .join (σ:=Value×List (Value×aa)) (fun s=>[(2,.pointer (some ⟨b2,0,none⟩)),(8,s.1)]) (fun s=>[pt b2 (.cells #[.bool hk,sv key,.bool hv,sv val,.int .i64 time,.int .i64 off] 95 (0,0)),rowR 79 1 s.1 s.2.length (s.2.map (·.1)),bi s.2.reverse]++F) (fun s=>s.2.map (·.2)=[flB ⟨hk,key,hv,val,time,off⟩,vint off.toNat,vint (zigN (time - first))]++(if hk then [txtB key] else [])++(if hv then [txtB val] else [])/\s.1≠.slice none 0 0) ?_ ?_
        ·refine .cond rfl (fun hv=>?_) (fun hv=>?_)
         ·obtain ⟨lv,l⟩:=sk
          obtain ⟨hl,hnn⟩:=hsk
          simp only at hl hnn
          have hll:l.length<=4:=by have:=congrArg List.length hl;simp at this;split at this<;>simp at this<;>omega
          refine .region (.move ?_)
          refine .fa ?_ vq
          refine .ld ?_ sc9
          refine .call (hc:=Tryz.call224) (sp:=Jf (s:=val) (by omega)) (h:=?_)
          rintro vt _ ⟨hnt,rfl⟩
          refine .toE (br hnt) ?_
          rintro ⟨gt,qt⟩ ⟨rfl,hta,htb,htc⟩
          refine .to (A':=buf gt 5 qt (bvs (txtB val))) (fun h hh=>hh) ?_
          have htl:(txtB val).length=(vint (val).length).length+(val).length:=List.length_append
          refine .blobsAdd (xs:=txtB val) (k:=qt) (by omega) ?_
          refine .buildS (fun b55=>?_) (T8 _ _ _)
          refine .append (m:=1) (news:=[.slice (some ⟨gt,0,none⟩) ((vint (val).length).length+(val).length) qt]) Rj (by decide) (by repeat (first | exact .here | apply Rem.there | apply Repl.there | apply Mem.there)) (Reads.pt (cs:=#[.slice (some ⟨gt,0,none⟩) ((vint (val).length).length+(val).length) qt])) (by repeat (first | exact .here | apply Rem.there | apply Repl.there | apply Mem.there)) rfl (by simp [Value.single]) (by show l.length+1<=maxLen;unfold maxLen;omega) (by show (l.length+1) * 24<=140737488355328;omega) ⟨_,z79,rfl⟩ (fun v' hv'=>?_)
          refine .assign (.nil ?_)
          rw [<- htl]
          exact .joined (v',l++[(.slice (some ⟨gt,0,none⟩) (txtB val).length qt,txtB val)]) ⟨by simp only [List.map_append,hl,hv,if_true];rfl,fun h=>(by have:=(hv'.1 h).2;omega)⟩ (hI:=by simp only [List.length_append,List.length_cons,List.length_nil,List.map_append,List.map_cons,List.map_nil,List.reverse_append,List.reverse_cons,List.reverse_nil,List.nil_append,List.cons_append];exact Am.auto)
         ·refine .skip ?_
          exact .joined sk ⟨by rw [hsk.1,hv];simp,hsk.2⟩
        ·rintro sv hsv
         obtain ⟨hl,hnn⟩:=hsv
         have hfl:sv.2.flatMap (·.2)=encB ⟨hk,key,hv,val,time,off⟩ first:=by
          rw [show sv.2.flatMap (·.2)=(sv.2.map (·.2)).flatten by rw [List.flatMap_def],hl]
          unfold encB
          cases hk<;>cases hv<;>simp
         have hel:=xw (first:=first) hck
         have hll:1<=sv.2.length/\sv.2.length<=5:=by
          have:=congrArg List.length hl
          rw [List.length_map] at this
          rw [this]
          cases hk<;>cases hv<;>simp
         refine .next (.sr ?_)
         refine .rowOpen (v:=sv.1) (hx:=fun h=>by have:=congrArg List.length h;rw [List.length_map] at this;simp only [List.length_nil] at this;omega) fun A4 c4 hv4 hR4 h41 h42=>?_
         refine .cast (d:=8) rfl hv4 ?_
         refine .move ?_
         refine .call (hc:=Tryz.call225) (sp:=Rn (l:=sv.2) (bl:=sv.2.reverse) hR4 (fun p hp=>by simpa using hp) (by omega) (by rw [hfl];omega)) (h:=?_)
         rintro vj _ rfl
         rw [hfl]
         refine .assign (.assign (.z (.ret (?_))))
         exact .ret2 (h1:=.tmp (t:=4) rfl) (h2:=.tmp (t:=5) rfl) ⟨_,.inr ⟨hck,hE,vj,rfl,rfl⟩,Am.auto⟩
theorem z243 :ba Tryz.prog 243=some (#[.int .i64 0,.int .i64 0,.int .i64 0,.int .i64 0,.int .i64 0,.int .i64 0,.int .i64 0,.int .i64 0,.int .i64 0,.int .i64 0]):=by kernel_rfl
theorem T9 :c5 Tryz.prog 243 10=true:=by kernel_rfl
theorem tx :ad Tryz.prog 44 0 0=true:=by kernel_rfl
theorem qo :ad Tryz.prog 44 1 1=true:=by kernel_rfl
theorem Oz :ad Tryz.prog 44 2 2=true:=by kernel_rfl
theorem O0 :ad Tryz.prog 44 3 3=true:=by kernel_rfl
theorem ir :ad Tryz.prog 44 4 4=true:=by kernel_rfl
theorem sc37 :ai Tryz.prog 37=true:=by kernel_rfl
theorem sl37 :Tryz.prog.underlying 37=some (.slice 95):=by kernel_rfl
theorem so37 :ar Tryz.prog 37 95 6 64=true:=by kernel_rfl
theorem z95 :ba Tryz.prog 95=some (#[.bool false,.string ⟨#[]⟩,.bool false,.string ⟨#[]⟩,.int .i64 0,.int .i64 0]):=by kernel_rfl
theorem dz :c5 Tryz.prog 44 5=true:=by kernel_rfl
theorem z242 :ba Tryz.prog 242=some (#[.int .i64 0,.int .i64 0]):=by kernel_rfl
theorem mq :c5 Tryz.prog 242 2=true:=by kernel_rfl
theorem i6 :ad Tryz.prog 242 0 0=true:=by kernel_rfl
theorem i7 :ad Tryz.prog 242 1 1=true:=by kernel_rfl
theorem Ji (a b:Int):av Tryz.prog 242 [(0,.int .i64 a),(1,.int .i64 b)] #[.int .i64 a,.int .i64 b]:=fun w=>by kernel_rfl
abbrev Bw :Array Value:=#[.int .i64 16,.int .i64 8,.int .i64 24,.int .i64 8,.int .i64 32,.int .i64 4,.int .i64 36,.int .i64 4,.int .i64 40,.int .i64 8]
theorem Ua :av Tryz.prog 243 [(0,.agg #[.int .i64 16,.int .i64 8]),(1,.agg #[.int .i64 24,.int .i64 8]),(2,.agg #[.int .i64 32,.int .i64 4]),(3,.agg #[.int .i64 36,.int .i64 4]),(4,.agg #[.int .i64 40,.int .i64 8])] Bw:=fun w=>by kernel_rfl
theorem O1 (w:World):(Instr.index 243 (.agg Bw) (.int .i64 0)).run Tryz.prog w=.ok (.agg #[.int .i64 16,.int .i64 8]) w:=by kernel_rfl
theorem O2 (w:World):(Instr.index 243 (.agg Bw) (.int .i64 1)).run Tryz.prog w=.ok (.agg #[.int .i64 24,.int .i64 8]) w:=by kernel_rfl
theorem O3 (w:World):(Instr.index 243 (.agg Bw) (.int .i64 2)).run Tryz.prog w=.ok (.agg #[.int .i64 32,.int .i64 4]) w:=by kernel_rfl
theorem O4 (w:World):(Instr.index 243 (.agg Bw) (.int .i64 3)).run Tryz.prog w=.ok (.agg #[.int .i64 36,.int .i64 4]) w:=by kernel_rfl
theorem O5 (w:World):(Instr.index 243 (.agg Bw) (.int .i64 4)).run Tryz.prog w=.ok (.agg #[.int .i64 40,.int .i64 8]) w:=by kernel_rfl
theorem gm :Spec Tryz.prog 161 #[] [] fun F v M=>v=.agg Bw/\M=F:=by
 refine Spec.intro Tryz.func161 rfl rfl fun B F=>?_
 simp only [Tryz.ntmps161,List.cons_append,List.nil_append,env0,Nat.reduceAdd]
 refine .sr ?_
 refine .alloc z243 fun b0=>?_
 refine .x ?_
 refine .build ?_ (Ji _ _)
 refine .build ?_ (Ji _ _)
 refine .build ?_ (Ji _ _)
 refine .build ?_ (Ji _ _)
 refine .build ?_ (Ji _ _)
 refine .build ?_ Ua
 refine .stV ?_ T9
 refine .z (.ret (?_))
 exact .ret1 ⟨_,⟨rfl,rfl⟩,Am.auto⟩
def u64N (v:Int):Nat:=(IntKind.u64.wrap v).toNat
theorem Jj (v:Int):u64N v < 2 ^ 64:=by have:=Bu v;unfold u64N;omega
theorem Ro (v:Int):IntKind.u64.wrap v=((u64N v:Nat):Int):=by have:=Bu v;unfold u64N;omega
theorem rl {a:Nat} (h:a < 2 ^ 64):u64N (a:Int)=a:=by unfold u64N;rw [dy h];rfl
theorem qp {R:HP} {A:Addr} {n c:Nat} {xs:aa} {p size v:Int} (hR:Reads R (some A) (bvs xs)) (hn:xs.length=n) (hl:n<=1073741824) (hs:1<=size/\size<=8) (h0:0<=p) (h1:p<=(n:Int) - size):Spec Tryz.prog 160 #[.slice (some A) n c,.int .i64 p,.int .i64 size,.int .i64 v] [R]
  fun F u M=>∃ g q,(u=.slice (some ⟨g,0,none⟩) n q/\n<=q/\q<=maxLen)/\M=buf g 5 q (bvs (put xs p.toNat size.toNat true (u64N v))) :: R :: F:=by
 refine Spec.intro Tryz.func160 rfl rfl fun B F=>?_
 simp only [Tryz.ntmps160,List.cons_append,List.nil_append,env0,Nat.reduceAdd]
 refine .sr (.assign (.x (.move (.move (.move (.move ?_))))))
 refine .cvt ?_ un3 cx
 refine .cast (d:=16) (u:=.int .u64 ((u64N v:Nat):Int)) rfl (cI9 (Ro v)) ?_
 refine .call (hc:=Tryz.call105) (sp:=li (xs:=xs) (v:=u64N v) hR hn hl hs h0 h1 (Jj v)) (h:=?_)
 rintro _ _ ⟨gq,kq,⟨rfl,h1,h2⟩,rfl⟩
 refine .move ?_
 refine .extract (.extract ?_)
 refine .assign (.assign (.x (.move (.assign (.z ?_)))))
 refine .ret (?_)
 exact .ret1 (h1:=.tmp (t:=8) rfl) ⟨_,⟨gq,kq,⟨rfl,h1,h2⟩,rfl⟩,Am.auto⟩
structure Bt where
 base:Int
 span:Int
 prod:Int
 seq:Int
 recs:List Rc
def Bt.v (b:Bt) (s:Value):List Value:=[.int .i64 b.base,.int .i64 b.span,.int .i64 b.prod,.int .i64 b.seq,s]
def Bt.rv (b:Bt):List Value:=b.recs.flatMap Rc.v
def d9 (b:Bt):Bool:=decide (b.base < 0) || (decide (1125899906842624 < b.base) || (decide (b.span < 1) || (decide (100 < b.span) || (decide (b.prod < 0) || (decide (b.seq < 0) || decide (((b.recs.length:Nat):Int)=0))))))
def Fk (b:Bt) (i:Nat):Int:=((b.recs[i]?).map Rc.off).getD 0
def mr (b:Bt) (i:Nat):Bool:=!(decide (b.span<=Fk b i) || (decide ((0:Int) < ((i:Nat):Int)) && decide (Fk b i<=Fk b (i - 1))))
def ga (b:Bt):Bool:=!d9 b && (List.range b.recs.length).all (mr b)
theorem ib {b:Bt} (h:d9 b=true):false=ga b:=by unfold ga;rw [h];rfl
theorem Du {b:Bt} {i:Nat} (hi:i < b.recs.length) (h:mr b i=false):false=ga b:=by
 unfold ga
 have:(List.range b.recs.length).all (mr b)=false:=by
  rw [List.all_eq_false]
  exact ⟨i,List.mem_range.2 hi,by simp [h]⟩
 rw [this,Bool.and_false]
theorem Dv {b:Bt} (h0:d9 b=false) (h:∀ j,j < b.recs.length->mr b j=true):true=ga b:=by
 unfold ga
 rw [h0,List.all_eq_true.2 fun j hj=>h j (List.mem_range.1 hj)]
 rfl
theorem xx {b:Bt} {i:Nat} {r:Rc} (h:b.recs[i]?=some r):Fk b i=r.off:=by unfold Fk;rw [h];rfl
theorem Fl {R:HP} {A:Option Addr} {c:Nat} {b:Bt} (hR:Reads R A b.rv) (hl:b.recs.length<=1073741824):Spec Tryz.prog 159 #[.agg (b.v (.slice A b.recs.length c)).toArray] [R] fun F v M=>v=.bool (ga b)/\M=R :: F:=by
 refine Spec.intro Tryz.func159 rfl rfl fun B F=>?_
 simp only [Tryz.ntmps159,List.cons_append,List.nil_append,env0,Nat.reduceAdd]
 refine .sr ?_
 refine .box fun b1=>?_
 refine .assign (.z (.seq (.sr ?_)))
 refine .fa ?_ tx
 refine .ld ?_ sc3
 refine .lss ?_
 refine .move ?_
 refine .split (t:=8) rfl (fun h1=>?_) (fun h1=>?_)
 ·refine .gF (.gF (.gF (.pickT (.move (.gF ?_)))))
  refine .gF (.gF (.pickT (.move (.gF (.gF ?_)))))
  refine .gF (.pickT (.move (.gF (.gF (.gF ?_)))))
  refine .pickT (.move (.gF (.gF (.gF (.pickT ?_)))))
  refine .move (.gF (.gF (.gF (.gF (.pickT ?_)))))
  refine .z ?_
  refine .condT rfl rfl ?_
  refine .sr (.assign (.z ?_))
  refine .ret (.thenRet (?_))
  exact .ret1 (h1:=.tmp (t:=2) rfl) ⟨_,⟨cB9 (ib (by simp only [d9,show _=true from h1,Bool.or_true,Bool.true_or])),rfl⟩,Am.auto⟩
 ·refine .gT ?_
  refine .fa ?_ tx
  refine .gT ?_
  refine .ld ?_ sc3
  refine .gT ?_
  refine .gtr ?_
  refine .pickF (.move ?_)
  refine .split (t:=13) rfl (fun h2=>?_) (fun h2=>?_)
  ·refine .gF (.gF (.gF (.pickT (.move (.gF ?_)))))
   refine .gF (.gF (.pickT (.move (.gF (.gF ?_)))))
   refine .gF (.pickT (.move (.gF (.gF (.gF ?_)))))
   refine .pickT (.move (.gF (.gF (.gF (.gF ?_)))))
   refine .pickT (.z ?_)
   refine .condT rfl rfl ?_
   refine .sr (.assign (.z ?_))
   refine .ret (.thenRet (?_))
   exact .ret1 (h1:=.tmp (t:=2) rfl) ⟨_,⟨cB9 (ib (by simp only [d9,show _=true from h2,Bool.or_true,Bool.true_or])),rfl⟩,Am.auto⟩
  ·refine .gT ?_
   refine .fa ?_ qo
   refine .gT ?_
   refine .ld ?_ sc3
   refine .gT ?_
   refine .lss ?_
   refine .pickF (.move ?_)
   refine .split (t:=18) rfl (fun h3=>?_) (fun h3=>?_)
   ·refine .gF (.gF (.gF (.pickT (.move (.gF ?_)))))
    refine .gF (.gF (.pickT (.move (.gF (.gF ?_)))))
    refine .gF (.pickT (.move (.gF (.gF (.gF ?_)))))
    refine .gF (.pickT (.z ?_))
    refine .condT rfl rfl ?_
    refine .sr (.assign (.z ?_))
    refine .ret (.thenRet (?_))
    exact .ret1 (h1:=.tmp (t:=2) rfl) ⟨_,⟨cB9 (ib (by simp only [d9,show _=true from h3,Bool.or_true,Bool.true_or])),rfl⟩,Am.auto⟩
   ·refine .gT ?_
    refine .fa ?_ qo
    refine .gT ?_
    refine .ld ?_ sc3
    refine .gT ?_
    refine .gtr ?_
    refine .pickF (.move ?_)
    refine .split (t:=23) rfl (fun h4=>?_) (fun h4=>?_)
    ·refine .gF (.gF (.gF (.pickT (.move (.gF ?_)))))
     refine .gF (.gF (.pickT (.move (.gF (.gF ?_)))))
     refine .gF (.gF (.pickT (.z ?_)))
     refine .condT rfl rfl ?_
     refine .sr (.assign (.z ?_))
     refine .ret (.thenRet (?_))
     exact .ret1 (h1:=.tmp (t:=2) rfl) ⟨_,⟨cB9 (ib (by simp only [d9,show _=true from h4,Bool.or_true,Bool.true_or])),rfl⟩,Am.auto⟩
    ·refine .gT ?_
     refine .fa ?_ Oz
     refine .gT ?_
     refine .ld ?_ sc3
     refine .gT ?_
     refine .lss ?_
     refine .pickF (.move ?_)
     refine .split (t:=28) rfl (fun h5=>?_) (fun h5=>?_)
     ·refine .gF (.gF (.gF (.pickT (.move (.gF ?_)))))
      refine .gF (.gF (.gF (.pickT (.z ?_))))
      refine .condT rfl rfl ?_
      refine .sr (.assign (.z ?_))
      refine .ret (.thenRet (?_))
      exact .ret1 (h1:=.tmp (t:=2) rfl) ⟨_,⟨cB9 (ib (by simp only [d9,show _=true from h5,Bool.or_true,Bool.true_or])),rfl⟩,Am.auto⟩
     ·refine .gT ?_
      refine .fa ?_ O0
      refine .gT ?_
      refine .ld ?_ sc3
      refine .gT ?_
      refine .lss ?_
      refine .pickF (.move ?_)
      refine .split (t:=33) rfl (fun h6=>?_) (fun h6=>?_)
      ·refine .gF (.gF (.gF (.gF (.pickT (.z ?_)))))
       refine .condT rfl rfl ?_
       refine .sr (.assign (.z ?_))
       refine .ret (.thenRet (?_))
       exact .ret1 (h1:=.tmp (t:=2) rfl) ⟨_,⟨cB9 (ib (by simp only [d9,show _=true from h6,Bool.or_true,Bool.true_or])),rfl⟩,Am.auto⟩
      ·refine .gT ?_
       refine .fa ?_ ir
       refine .gT ?_
       refine .ld ?_ sc37
       refine .gT ?_
       refine .lenS ?_ sl37
       refine .gT ?_
       refine .eqi ?_
       refine .pickF (.z ?_)
       refine .cond rfl (fun h7=>?_) (fun h7=>?_)
       ·refine .sr (.assign (.z ?_))
        refine .ret (.thenRet (?_))
        exact .ret1 (h1:=.tmp (t:=2) rfl) ⟨_,⟨cB9 (ib (by simp only [d9,show _=true from h7,Bool.or_true])),rfl⟩,Am.auto⟩
       ·have hhead:d9 b=false:=by simp only [d9,show decide (b.base < 0)=false from h1,show decide (1125899906842624 < b.base)=false from h2,show decide (b.span < 1)=false from h3,show decide (100 < b.span)=false from h4,show decide (b.prod < 0)=false from h5,show decide (b.seq < 0)=false from h6,show decide (((b.recs.length:Nat):Int)=0)=false from h7,Bool.or_false]
        have hpos:0 < b.recs.length:=by have h:¬ ((b.recs.length:Nat):Int)=0:=of_decide_eq_false h7;omega
        obtain ⟨ab,ao,rfl⟩:∃ ab ao,A=some ⟨ab,ao,none⟩:=by
         cases A with
         | none =>
          have h0:b.rv=[]:=hR
          have h1:=be Rc.v_len b.recs
          rw [show b.recs.flatMap Rc.v=[] from h0] at h1
          simp at h1
          omega
         | some a =>
          obtain ⟨x,y,z⟩:=a
          have:z=none:=hR.1
          subst this
          exact ⟨x,y,rfl⟩
        refine .skip (.next (.seq (.sr ?_)))
        refine .fa ?_ ir
        refine .ld ?_ sc37
        refine .lenS ?_ sl37
        refine .move (.z (.block ?_))
        refine .loopA (σ:=Nat) (fun i=>[(1,.pointer (some ⟨b1,0,none⟩)),(40,.slice (some ⟨ab,ao,none⟩) b.recs.length c),(41,.int .i64 ((b.recs.length:Nat):Int)),(42,.int .i64 ((i:Nat):Int))]) (fun _=>[pt b1 (.cells #[.int .i64 b.base,.int .i64 b.span,.int .i64 b.prod,.int .i64 b.seq,.slice (some ⟨ab,ao,none⟩) b.recs.length c] 44 (0,0)),R]++F) (fun i=>i<=b.recs.length/\∀ j,j < i->mr b j=true) (fun i=>b.recs.length - i) 0 ⟨Nat.zero_le _,fun j hj=>absurd hj (Nat.not_lt_zero _)⟩ ?_
        rintro i hp
        refine .sr ?_
        refine .lss (.z (.seq ?_))
        refine .cond rfl (fun hd=>?_) (fun hd=>?_)
        ·have hil:i < b.recs.length:=by have h:(i:Int) < ((b.recs.length:Nat):Int):=of_decide_eq_true hd;omega
         obtain ⟨r,hr⟩:∃ r,b.recs[i]?=some r:=⟨_,List.getElem?_eq_getElem hil⟩
         have hoi:=xx hr
         refine .skip (.next (.seq (.block (.sr (.move ?_)))))
         refine .idx ?_ so37
         refine .ldAR (i:=i * 6) (us:=r.v) ?_ ji hR (i5 Rc.v_len _ _ _ hr) (oe Rc.v_len hil)
         refine .alloc z95 fun b4=>?_
         refine .assign ?_
         refine .stV ?_ ji
         refine .z (.seq ?_)
         cases h8:decide (b.span<=r.off) with
         | false =>
          cases h9:decide ((0:Int) < ((i:Nat):Int)) with
          | false =>
           refine .dr ([pt b1 (.cells #[.int .i64 b.base,.int .i64 b.span,.int .i64 b.prod,.int .i64 b.seq,.slice (some ⟨ab,ao,none⟩) b.recs.length c] 44 (0,0)),pt b4 (.cells r.v.toArray 95 (0,0)),R]) [] 21 mixed .autoJ ?_
           refine .tk 0 rfl (.fa og) ?_
           refine .tk 1 rfl (.ld sc3) ?_
           refine .tk 2 rfl (.fa qo) ?_
           refine .tk 3 rfl (.ld sc3) ?_
           refine .tk 4 rfl ((Qt.geq).eq (cB9 h8)) ?_
           refine .tk 5 rfl .move ?_
           refine .tn 6 rfl .move ?_
           refine .tn 7 rfl ((Qt.gtr).eq (cB9 h9)) ?_
           refine .tn 8 rfl .move ?_
           refine .tf 9 rfl ?_
           refine .tf 10 rfl ?_
           refine .tf 11 rfl ?_
           refine .tf 12 rfl ?_
           refine .tf 13 rfl ?_
           refine .tf 14 rfl ?_
           refine .tf 15 rfl ?_
           refine .tf 16 rfl ?_
           refine .tf 17 rfl ?_
           refine .tf 18 rfl ?_
           refine .tn 19 rfl .pickF ?_
           refine .tk 20 rfl .pickF ?_
           refine .fin ?_
           refine .next ?_
           refine .condF rfl rfl ?_
           refine .skip (.blockNormal (.next (.region ?_)))
           refine .add ?_
           refine .move (.nil ?_)
           exact .back (i+1) ⟨hil,fun j hj=>if h:j < i then hp.2 j h else (by rw [show j=i from by omega];simp only [mr,hoi,h8,h9,Bool.false_and,Bool.and_false,Bool.or_false,Bool.false_or,Bool.true_and,Bool.not_false])⟩ (by omega)
          | true =>
           obtain ⟨q,hq⟩:∃ q,b.recs[i - 1]?=some q:=⟨_,List.getElem?_eq_getElem (by omega)⟩
           have hoq:=xx hq
           have hi0:0 < i:=by have h:(0:Int) < (i:Int):=of_decide_eq_true h9;omega
           have hcell:b.rv[(i - 1) * 6+5]?=some (.int .i64 q.off):=by
            have h1:=i5 Rc.v_len _ _ _ hq
            have h2:(((b.recs.flatMap Rc.v).drop ((i - 1) * 6)).take 6)[5]?=some (.int .i64 q.off):=by rw [h1];rfl
            rw [List.getElem?_take,if_pos (by decide),List.getElem?_drop] at h2
            exact h2
           refine .dr ([pt b1 (.cells #[.int .i64 b.base,.int .i64 b.span,.int .i64 b.prod,.int .i64 b.seq,.slice (some ⟨ab,ao,none⟩) b.recs.length c] 44 (0,0)),pt b4 (.cells r.v.toArray 95 (0,0)),R]) [] 21 mixed .autoJ ?_
           refine .tk 0 rfl (.fa og) ?_
           refine .tk 1 rfl (.ld sc3) ?_
           refine .tk 2 rfl (.fa qo) ?_
           refine .tk 3 rfl (.ld sc3) ?_
           refine .tk 4 rfl ((Qt.geq).eq (cB9 h8)) ?_
           refine .tk 5 rfl .move ?_
           refine .tn 6 rfl .move ?_
           refine .tn 7 rfl ((Qt.gtr).eq (cB9 h9)) ?_
           refine .tn 8 rfl .move ?_
           refine .tn 9 rfl (.fa og) ?_
           refine .tn 10 rfl (.ld sc3) ?_
           refine .tn 11 rfl (.fa ir) ?_
           refine .tn 12 rfl (.ld sc37) ?_
           refine .tn 13 rfl .move ?_
           refine .tn 14 rfl .sub ?_
           refine .tn 15 rfl (.idx so37) ?_
           refine .tn 16 rfl ((Qt.fa og).eq (congrArg (fun z=>Value.pointer (some ⟨ab,z,none⟩)) (show ao+(((i:Nat):Int) - 1).toNat * 6+5=ao+((i - 1) * 6+5) by omega))) ?_
           refine .tn 17 rfl (Qt.ldR sc3 hR hcell) ?_
           refine .tn 18 rfl .leq ?_
           refine .tn 19 rfl .pickT ?_
           refine .tk 20 rfl .pickF ?_
           refine .fin ?_
           refine .next ?_
           refine .cond rfl (fun h10=>?_) (fun h10=>?_)
           ·refine .sr (.assign (.z ?_))
            refine .ret (.blockRet (.thenRet (.thenRet (.blockRet (.thenRet (?_))))))
            exact .ret1 (h1:=.tmp (t:=2) rfl) ⟨_,⟨cB9 (Du hil (by simp only [mr,hoi,h8,h9,hoq,show decide (r.off<=q.off)=true from h10,Bool.true_or,Bool.or_true,Bool.and_true,Bool.true_and,Bool.false_or,Bool.not_true])),rfl⟩,Am.auto⟩
           ·refine .skip (.blockNormal (.next (.region ?_)))
            refine .add ?_
            refine .move (.nil ?_)
            exact .back (i+1) ⟨hil,fun j hj=>if h:j < i then hp.2 j h else (by rw [show j=i from by omega];simp only [mr,hoi,h8,h9,hoq,show decide (r.off<=q.off)=false from h10,Bool.false_and,Bool.and_false,Bool.or_false,Bool.false_or,Bool.true_and,Bool.not_false])⟩ (by omega)
         | true =>
          refine .dr ([pt b1 (.cells #[.int .i64 b.base,.int .i64 b.span,.int .i64 b.prod,.int .i64 b.seq,.slice (some ⟨ab,ao,none⟩) b.recs.length c] 44 (0,0)),pt b4 (.cells r.v.toArray 95 (0,0)),R]) [] 21 mixed .autoJ ?_
          refine .tk 0 rfl (.fa og) ?_
          refine .tk 1 rfl (.ld sc3) ?_
          refine .tk 2 rfl (.fa qo) ?_
          refine .tk 3 rfl (.ld sc3) ?_
          refine .tk 4 rfl ((Qt.geq).eq (cB9 h8)) ?_
          refine .tk 5 rfl .move ?_
          refine .tf 6 rfl ?_
          refine .tf 7 rfl ?_
          refine .tf 8 rfl ?_
          refine .tu 9 rfl ?_
          refine .tu 10 rfl ?_
          refine .tu 11 rfl ?_
          refine .tu 12 rfl ?_
          refine .tu 13 rfl ?_
          refine .tu 14 rfl ?_
          refine .tu 15 rfl ?_
          refine .tu 16 rfl ?_
          refine .tu 17 rfl ?_
          refine .tu 18 rfl ?_
          refine .tf 19 rfl ?_
          refine .tk 20 rfl .pickT ?_
          refine .fin ?_
          refine .next ?_
          refine .condT rfl rfl ?_
          refine .sr (.assign (.z ?_))
          refine .ret (.blockRet (.thenRet (.thenRet (.blockRet (.thenRet (?_))))))
          exact .ret1 (h1:=.tmp (t:=2) rfl) ⟨_,⟨cB9 (Du hil (by simp only [mr,hoi,h8,Bool.true_or,Bool.or_true,Bool.and_true,Bool.true_and,Bool.false_or,Bool.not_true])),rfl⟩,Am.auto⟩
        ·have hge:i=b.recs.length:=by have h:¬ (i:Int) < ((b.recs.length:Nat):Int):=of_decide_eq_false hd;omega
         subst hge
         refine .exit (.thenExit (.thenExit (.blockExit (?_))))
         refine .next (.sr (.assign (.z (.ret (?_)))))
         exact .ret1 (h1:=.tmp (t:=2) rfl) ⟨_,⟨cB9 (Dv hhead hp.2),rfl⟩,Am.auto⟩
def ak (b:Bt):Int:=((b.recs[0]?).map Rc.time).getD 0
def bh (b:Bt):aa:=put (put (put (put (put (put (List.replicate 48 0) 0 8 true (u64N b.base)) 16 8 true (u64N b.prod)) 24 8 true (u64N b.seq)) 32 4 true (u64N b.span)) 36 4 true (u64N ((b.recs.length:Nat):Int))) 40 8 true (u64N (ak b))
theorem cd (b:Bt):(bh b).length=48:=by simp only [bh,an];rfl
def fi :List Rc->Int
 | []=>0
 | r :: l=>if ckE r=0 then fi l else ckE r
theorem tz {l:List Rc} (h:∀ r∈l,ckE r=0):fi l=0:=by
 induction l with
 | nil=>rfl
 | cons r l ih=>rw [fi,if_pos (h r (List.mem_cons_self ..))];exact ih fun x hx=>h x (List.mem_cons_of_mem _ hx)
theorem Bx :∀ {l:List Rc} {i:Nat} {r:Rc},l[i]?=some r->(∀ j x,j < i->l[j]?=some x->ckE x=0)->ckE r≠0->fi l=ckE r:=by
 intro l
 induction l with
 | nil=>intro i r h;cases h
 | cons y l ih =>
  intro i r h hb hr
  cases i with
  | zero =>
   simp only [List.getElem?_cons_zero,Option.some.injEq] at h
   subst h
   rw [fi,if_neg hr]
  | succ i =>
   rw [fi,if_pos (hb 0 y (Nat.succ_pos _) rfl)]
   exact ih (by simpa using h) (fun j x hj hx=>hb (j+1) x (Nat.succ_lt_succ hj) (by simpa using hx)) hr
def lu (b:Bt):Int:=if ga b then fi b.recs else 1
def cq (b:Bt):aa:=bh b++b.recs.flatMap fun r=>encB r (ak b)
def fq (b:Bt):aa:=put (cq b) 8 4 true (u64N (((cq b).length:Int) - 12))
def batB (b:Bt):aa:=put (fq b) 12 4 true (crcI ((fq b).drop 16)).toNat
def batE (b:Bt):Int:=if lu b=0 then (if 6000 < (batB b).length then 2 else 0) else lu b
theorem kf (b:Bt):(batB b).length=(cq b).length:=by unfold batB fq;rw [an,an]
theorem Dw {f:Int} {l:List Rc} (h:∀ r∈l,ckE r=0):(l.flatMap fun r=>encB r f).length<=4100 * l.length:=by
 induction l with
 | nil=>simp
 | cons r l ih =>
  rw [List.flatMap_cons,List.length_append,List.length_cons]
  have h1:=xw (first:=f) (h r (List.mem_cons_self ..))
  have h2:=ih fun x hx=>h x (List.mem_cons_of_mem _ hx)
  omega
theorem Rp {r:Rc} {f:Int} (h:ckE r=0) (hf:0<=f/\f<=1125899906842624):encE r f=0:=by unfold encE;rw [if_pos h,if_neg (by omega)]
theorem rn (r:Rc) (f:Int):1<=(encB r f).length:=by unfold encB flB;simp
theorem ft {a:Nat} (h:a < 2 ^ 63):IntKind.i64.wrap ((a:Nat):Int)=(a:Int):=by
 simp only [IntKind.wrap,IntKind.bits,IntKind.signed]
 simp
 omega
theorem bsI5 (v0 v1 v2 v3 v4:Int):bc Tryz.prog 26 5 [(0,.int .i64 v0),(1,.int .i64 v1),(2,.int .i64 v2),(3,.int .i64 v3),(4,.int .i64 v4)] 3 #[.int .i64 v0,.int .i64 v1,.int .i64 v2,.int .i64 v3,.int .i64 v4]:=fun w=>by kernel_rfl
theorem Rq {R:HP} {A:Option Addr} {c:Nat} {b:Bt} (hR:Reads R A b.rv) (hl:b.recs.length<=10000):Spec Tryz.prog 88 #[.agg (b.v (.slice A b.recs.length c)).toArray] [R]
  fun F v M=>(lu b≠0/\v=.tuple #[.slice none 0 0,.int .i64 (lu b)]/\M=R :: F) ∨
   (lu b=0/\∃ g q,(v=.tuple #[.slice (some ⟨g,0,none⟩) (batB b).length q,.int .i64 0]/\(batB b).length<=q/\q<=maxLen)/\M=buf g 5 q (bvs (batB b)) :: R :: F):=by
 refine Spec.intro Tryz.func88 rfl rfl fun B F=>?_
 simp only [Tryz.ntmps88,List.cons_append,List.nil_append,env0,Nat.reduceAdd]
 refine .sr ?_
 refine .box fun b1=>?_
 refine .assign (.assign (.z (.seq (.sr ?_))))
 refine .ldA ?_ dz
 refine .call (hc:=Tryz.call159) (sp:=Fl hR (by omega)) (h:=?_)
 rintro _ _ ⟨rfl,rfl⟩
 refine .not (.z ?_)
 refine .cond rfl (fun he=>?_) (fun he=>?_)
 ·have ho:ga b=false:=by simpa using he
  have hE:lu b=1:=by unfold lu;rw [if_neg (by simp [ho])]
  refine .sr (.assign (.assign (.z ?_)))
  refine .ret (.thenRet (?_))
  exact .ret2 (h1:=.tmp (t:=2) rfl) (h2:=.tmp (t:=3) rfl) ⟨_,.inl ⟨by rw [hE];decide,by rw [hE],rfl⟩,Am.auto⟩
 ·have ho:ga b=true:=by simpa using he
  have hE:lu b=fi b.recs:=by unfold lu;rw [if_pos ho]
  have hpos:0 < b.recs.length:=by
   rcases Nat.eq_zero_or_pos b.recs.length with h | h
   ·unfold ga d9 at ho
    rw [h] at ho
    simp at ho
   ·exact h
  obtain ⟨ab,ao,rfl⟩:∃ ab ao,A=some ⟨ab,ao,none⟩:=by
   cases A with
   | none =>
    have h0:b.rv=[]:=hR
    have h1:=be Rc.v_len b.recs
    rw [show b.recs.flatMap Rc.v=[] from h0] at h1
    simp at h1
    omega
   | some a =>
    obtain ⟨x,y,z⟩:=a
    have:z=none:=hR.1
    subst this
    exact ⟨x,y,rfl⟩
  obtain ⟨r0,hr0⟩:∃ r,b.recs[0]?=some r:=⟨_,List.getElem?_eq_getElem hpos⟩
  have hft:ak b=r0.time:=by unfold ak;rw [hr0];rfl
  have hcell:b.rv[4]?=some (.int .i64 (ak b)):=by
   have h1:=i5 Rc.v_len _ _ _ hr0
   rw [hft]
   have h2:(((b.recs.flatMap Rc.v).drop (0 * 6)).take 6)[4]?=some (.int .i64 r0.time):=by rw [h1];rfl
   rw [List.getElem?_take,if_pos (by decide),List.getElem?_drop] at h2
   exact h2
  refine .skip (.next (.sr ?_))
  refine .fa ?_ ir
  refine .ld ?_ sc37
  refine .idx ?_ so37
  refine .fa ?_ Dp
  refine .ldR (i:=4) ?_ sc3 hR hcell
  refine .assign (.z (.seq ?_))
  refine .dr ([pt b1 (.cells #[.int .i64 b.base,.int .i64 b.span,.int .i64 b.prod,.int .i64 b.seq,.slice (some ⟨ab,ao,none⟩) b.recs.length c] 44 (0,0))]) [] 5 mixed .autoJ ?_
  refine .tk 1 rfl (.fa tx) ?_
  refine .tk 2 rfl (.ld sc3) ?_
  refine .on 0 rfl fun hnp=>?_
  refine .mkSN 48 z5 so79 (by decide) (by decide) fun b24=>?_
  refine .to (A':=buf b24 5 48 (bvs (List.replicate 48 0))) (fun h hh=>by rw [show bvs (List.replicate 48 0)=List.replicate 48 (.int .u8 0) by simp [bvs,bv]];exact hh) ?_
  refine .nil (.wa hnp ?_)
  refine .on 3 rfl fun hnp=>?_
  refine .call (hc:=Tryz.call160) (sp:=qp (xs:=List.replicate 48 0) (v:=b.base) Reads.buf rfl (by decide) (by decide) (by decide) (by decide)) (h:=?_)
  rintro _ _ ⟨g0,q0,⟨rfl,h0a,h0b⟩,rfl⟩
  refine .nil (.wa hnp ?_)
  refine .tk 4 rfl .assign ?_
  refine .fin ?_
  refine .next (.seq (.sr ?_))
  refine .fa ?_ Oz
  refine .ld ?_ sc3
  refine .fa ?_ O0
  refine .ld ?_ sc3
  refine .fa ?_ qo
  refine .ld ?_ sc3
  refine .fa ?_ ir
  refine .ld ?_ sc37
  refine .lenS ?_ sl37
  refine .move ?_
  refine .buildS (fun b38=>?_) (bsI5 _ _ _ _ _)
  refine .lenS ?_ sl26
  refine .move (.z (.block ?_))
  refine .loopN 6 (RC.succ ?_)
  refine .sr ?_
  refine .lss (.z (.seq ?_))
  refine .condT rfl rfl ?_
  refine .skip (.next (.seq (.block (.sr (.move ?_)))))
  refine .idx1 ?_ so26
  refine .ld ?_ sc3
  refine .assign (.assign (.x ?_))
  refine .call (hc:=Tryz.call161) (sp:=gm) (h:=?_)
  rintro _ _ ⟨rfl,rfl⟩
  refine .move ?_
  refine .ixF ?_ O1
  refine .alloc z242 fun b8_0=>?_
  refine .stV ?_ mq
  refine .y (.move ?_)
  refine .fa ?_ i6
  refine .ld ?_ sc3
  refine .fa ?_ i7
  refine .ld ?_ sc3
  refine .move ?_
  refine .call (hc:=Tryz.call160) (sp:=qp (xs:=put (List.replicate 48 0) 0 8 true (u64N (b.base))) (v:=b.prod) Reads.buf (by simp only [an,List.length_replicate]) (by decide) (by decide) (by decide) (by decide)) (h:=?_)
  rintro _ _ ⟨g1,q1,⟨rfl,h1a,h1b⟩,rfl⟩
  refine .assign (.nil (.blockNormal (.next (.region ?_))))
  refine .add ?_
  refine .move (.nil ?_)
  refine .again (RC.succ ?_)
  refine .sr ?_
  refine .lss (.z (.seq ?_))
  refine .condT rfl rfl ?_
  refine .skip (.next (.seq (.block (.sr (.move ?_)))))
  refine .idx1 ?_ so26
  refine .ld ?_ sc3
  refine .assign (.assign (.x ?_))
  refine .call (hc:=Tryz.call161) (sp:=gm) (h:=?_)
  rintro _ _ ⟨rfl,rfl⟩
  refine .move ?_
  refine .ixF ?_ O2
  refine .alloc z242 fun b8_1=>?_
  refine .stV ?_ mq
  refine .y (.move ?_)
  refine .fa ?_ i6
  refine .ld ?_ sc3
  refine .fa ?_ i7
  refine .ld ?_ sc3
  refine .move ?_
  refine .call (hc:=Tryz.call160) (sp:=qp (xs:=put (put (List.replicate 48 0) 0 8 true (u64N (b.base))) 16 8 true (u64N (b.prod))) (v:=b.seq) Reads.buf (by simp only [an,List.length_replicate]) (by decide) (by decide) (by decide) (by decide)) (h:=?_)
  rintro _ _ ⟨g2,q2,⟨rfl,h2a,h2b⟩,rfl⟩
  refine .assign (.nil (.blockNormal (.next (.region ?_))))
  refine .add ?_
  refine .move (.nil ?_)
  refine .again (RC.succ ?_)
  refine .sr ?_
  refine .lss (.z (.seq ?_))
  refine .condT rfl rfl ?_
  refine .skip (.next (.seq (.block (.sr (.move ?_)))))
  refine .idx1 ?_ so26
  refine .ld ?_ sc3
  refine .assign (.assign (.x ?_))
  refine .call (hc:=Tryz.call161) (sp:=gm) (h:=?_)
  rintro _ _ ⟨rfl,rfl⟩
  refine .move ?_
  refine .ixF ?_ O3
  refine .alloc z242 fun b8_2=>?_
  refine .stV ?_ mq
  refine .y (.move ?_)
  refine .fa ?_ i6
  refine .ld ?_ sc3
  refine .fa ?_ i7
  refine .ld ?_ sc3
  refine .move ?_
  refine .call (hc:=Tryz.call160) (sp:=qp (xs:=put (put (put (List.replicate 48 0) 0 8 true (u64N (b.base))) 16 8 true (u64N (b.prod))) 24 8 true (u64N (b.seq))) (v:=b.span) Reads.buf (by simp only [an,List.length_replicate]) (by decide) (by decide) (by decide) (by decide)) (h:=?_)
  rintro _ _ ⟨g3,q3,⟨rfl,h3a,h3b⟩,rfl⟩
  refine .assign (.nil (.blockNormal (.next (.region ?_))))
  refine .add ?_
  refine .move (.nil ?_)
  refine .again (RC.succ ?_)
  refine .sr ?_
  refine .lss (.z (.seq ?_))
  refine .condT rfl rfl ?_
  refine .skip (.next (.seq (.block (.sr (.move ?_)))))
  refine .idx1 ?_ so26
  refine .ld ?_ sc3
  refine .assign (.assign (.x ?_))
  refine .call (hc:=Tryz.call161) (sp:=gm) (h:=?_)
  rintro _ _ ⟨rfl,rfl⟩
  refine .move ?_
  refine .ixF ?_ O4
  refine .alloc z242 fun b8_3=>?_
  refine .stV ?_ mq
  refine .y (.move ?_)
  refine .fa ?_ i6
  refine .ld ?_ sc3
  refine .fa ?_ i7
  refine .ld ?_ sc3
  refine .move ?_
  refine .call (hc:=Tryz.call160) (sp:=qp (xs:=put (put (put (put (List.replicate 48 0) 0 8 true (u64N (b.base))) 16 8 true (u64N (b.prod))) 24 8 true (u64N (b.seq))) 32 4 true (u64N (b.span))) (v:=((b.recs.length:Nat):Int)) Reads.buf (by simp only [an,List.length_replicate]) (by decide) (by decide) (by decide) (by decide)) (h:=?_)
  rintro _ _ ⟨g4,q4,⟨rfl,h4a,h4b⟩,rfl⟩
  refine .assign (.nil (.blockNormal (.next (.region ?_))))
  refine .add ?_
  refine .move (.nil ?_)
  refine .again (RC.succ ?_)
  refine .sr ?_
  refine .lss (.z (.seq ?_))
  refine .condT rfl rfl ?_
  refine .skip (.next (.seq (.block (.sr (.move ?_)))))
  refine .idx1 ?_ so26
  refine .ld ?_ sc3
  refine .assign (.assign (.x ?_))
  refine .call (hc:=Tryz.call161) (sp:=gm) (h:=?_)
  rintro _ _ ⟨rfl,rfl⟩
  refine .move ?_
  refine .ixF ?_ O5
  refine .alloc z242 fun b8_4=>?_
  refine .stV ?_ mq
  refine .y (.move ?_)
  refine .fa ?_ i6
  refine .ld ?_ sc3
  refine .fa ?_ i7
  refine .ld ?_ sc3
  refine .move ?_
  refine .call (hc:=Tryz.call160) (sp:=qp (xs:=put (put (put (put (put (List.replicate 48 0) 0 8 true (u64N (b.base))) 16 8 true (u64N (b.prod))) 24 8 true (u64N (b.seq))) 32 4 true (u64N (b.span))) 36 4 true (u64N (((b.recs.length:Nat):Int)))) (v:=ak b) Reads.buf (by simp only [an,List.length_replicate]) (by decide) (by decide) (by decide) (by decide)) (h:=?_)
  rintro _ _ ⟨g5,q5,⟨rfl,h5a,h5b⟩,rfl⟩
  refine .assign (.nil (.blockNormal (.next (.region ?_))))
  refine .add ?_
  refine .move (.nil ?_)
  refine .again (RC.succ ?_)
  refine .sr ?_
  refine .lss (.z (.seq ?_))
  refine .condF rfl rfl ?_
  refine .exit (.thenExit (.thenExit (.blockExit (?_))))
  refine .next (.seq (.sr ?_))
  refine .fa ?_ ir
  refine .ld ?_ sc37
  refine .lenS ?_ sl37
  refine .move (.z (.block ?_))
  refine .to (A:=buf g5 5 q5 (bvs (put (put (put (put (put (put (List.replicate 48 0) 0 8 true (u64N (b.base))) 16 8 true (u64N (b.prod))) 24 8 true (u64N (b.seq))) 32 4 true (u64N (b.span))) 36 4 true (u64N (((b.recs.length:Nat):Int)))) 40 8 true (u64N (ak b))))) (A':=buf g5 5 q5 (bvs (bh b))) (fun h hh=>hh) ?_
  refine .loopA (σ:=Nat) (fun i=>[(1,.pointer (some ⟨b1,0,none⟩)),(4,.int .i64 (ak b)),(5,.slice (some ⟨g5,0,none⟩) 48 q5),(57,.slice (some ⟨ab,ao,none⟩) b.recs.length c),(58,.int .i64 ((b.recs.length:Nat):Int)),(59,.int .i64 ((i:Nat):Int))]) (fun _=>[pt b1 (.cells #[.int .i64 b.base,.int .i64 b.span,.int .i64 b.prod,.int .i64 b.seq,.slice (some ⟨ab,ao,none⟩) b.recs.length c] 44 (0,0)),buf g5 5 q5 (bvs (bh b)),R]++F) (fun i=>i<=b.recs.length/\∀ j x,j < i->b.recs[j]?=some x->ckE x=0) (fun i=>b.recs.length - i) 0 ⟨Nat.zero_le _,fun j x hj=>absurd hj (Nat.not_lt_zero _)⟩ ?_
  rintro i hp
  refine .sr ?_
  refine .lss (.z (.seq ?_))
  refine .cond rfl (fun hd=>?_) (fun hd=>?_)
  ·have hil:i < b.recs.length:=by have h:(i:Int) < ((b.recs.length:Nat):Int):=of_decide_eq_true hd;omega
   obtain ⟨r,hr⟩:∃ r,b.recs[i]?=some r:=⟨_,List.getElem?_eq_getElem hil⟩
   refine .skip (.next (.seq (.block (.sr ?_))))
   refine .idx ?_ so37
   refine .ldAR (i:=i * 6) (us:=r.v) ?_ ji hR (i5 Rc.v_len _ _ _ hr) (oe Rc.v_len hil)
   refine .alloc z95 fun b10_5=>?_
   refine .stV ?_ ji
   refine .x ?_
   refine .ldA ?_ ji
   refine .call (hc:=Tryz.call162) (sp:=xv (r:=r)) (h:=?_)
   rintro _ _ ⟨rfl,rfl⟩
   refine .assign (.x (.move ?_))
   refine .nei (.z ?_)
   refine .cond rfl (fun hq=>?_) (fun hq=>?_)
   ·have hne:ckE r≠0:=by simpa using hq
    have hfb:=Bx hr (fun j x hj hx=>hp.2 j x hj hx) hne
    refine .sr (.move (.assign (.assign (.z ?_))))
    refine .ret (.blockRet (.thenRet (.thenRet (.blockRet (.thenRet (?_))))))
    exact .ret2 (h1:=.tmp (t:=2) rfl) (h2:=.tmp (t:=3) rfl) ⟨_,.inl ⟨by rw [hE,hfb];exact hne,by rw [hE,hfb],rfl⟩,Am.auto⟩
   ·have h0:ckE r=0:=by simpa using hq
    refine .skip (.blockNormal (.next (.region ?_)))
    refine .add ?_
    refine .move (.nil ?_)
    exact .back (i+1) ⟨hil,fun j x hj hx=>if h:j < i then hp.2 j x h hx else (by rw [show j=i from by omega,hr] at hx;injection hx with hx;rw [<- hx];exact h0)⟩ (by omega)
  ·have hge:i=b.recs.length:=by have h:¬ (i:Int) < ((b.recs.length:Nat):Int):=of_decide_eq_false hd;omega
   subst hge
   have hall:∀ x∈b.recs,ckE x=0:=fun x hx=>by
    obtain ⟨j,hj,hjx⟩:=List.getElem_of_mem hx
    exact hp.2 j x hj (by rw [List.getElem?_eq_getElem hj,hjx])
   have hE0:lu b=0:=by rw [hE];exact tz hall
   have hfr:0<=ak b/\ak b<=1125899906842624:=by
    have:=(zt (hall r0 (List.mem_of_getElem? hr0))).2.1
    rw [hft];exact this
   have hrl:(cq b).length<=48+4100 * b.recs.length:=by
    unfold cq
    rw [List.length_append,cd]
    have:=Dw (f:=ak b) hall
    omega
   have h00:(bh b++(b.recs.take 0).flatMap fun r=>encB r (ak b))=bh b:=by rw [List.take_zero];exact List.append_nil _
   refine .exit (.thenExit (.thenExit (.blockExit (?_))))
   refine .next (.seq (.sr ?_))
   refine .fa ?_ ir
   refine .ld ?_ sc37
   refine .lenS ?_ sl37
   refine .move ?_
   refine .to (A:=buf g5 5 q5 (bvs (bh b))) (A':=buf g5 5 q5 (bvs (bh b++(b.recs.take 0).flatMap fun r=>encB r (ak b)))) (fun h hh=>by rw [h00];exact hh) ?_
   refine .cast (d:=5) (u:=.slice (some ⟨g5,0,none⟩) (bh b++(b.recs.take 0).flatMap fun r=>encB r (ak b)).length q5) rfl (by rw [h00,cd]) ?_
   refine .z (.block ?_)
   refine .loopA (σ:=Nat×Nat×Nat) (fun s=>[(1,.pointer (some ⟨b1,0,none⟩)),(4,.int .i64 (ak b)),(5,.slice (some ⟨s.2.1,0,none⟩) (bh b++(b.recs.take s.1).flatMap fun r=>encB r (ak b)).length s.2.2),(70,.slice (some ⟨ab,ao,none⟩) b.recs.length c),(71,.int .i64 ((b.recs.length:Nat):Int)),(72,.int .i64 ((s.1:Nat):Int))]) (fun s=>[pt b1 (.cells #[.int .i64 b.base,.int .i64 b.span,.int .i64 b.prod,.int .i64 b.seq,.slice (some ⟨ab,ao,none⟩) b.recs.length c] 44 (0,0)),buf s.2.1 5 s.2.2 (bvs (bh b++(b.recs.take s.1).flatMap fun r=>encB r (ak b))),R]++F) (fun s=>s.1<=b.recs.length/\(bh b++(b.recs.take s.1).flatMap fun r=>encB r (ak b)).length<=s.2.2/\s.2.2<=maxLen) (fun s=>b.recs.length - s.1) (0,g5,q5) ⟨Nat.zero_le _,by show (bh b++[]).length<=q5;rw [List.append_nil,cd];exact h5a,h5b⟩ ?_
   rintro s hs
   obtain ⟨i,g,q⟩:=s
   obtain ⟨hi,hq1,hq2⟩:=hs
   simp only at hi hq1 hq2
   refine .sr ?_
   refine .lss (.z (.seq ?_))
   refine .cond rfl (fun hd2=>?_) (fun hd2=>?_)
   ·have hil:i < b.recs.length:=by have h:(i:Int) < ((b.recs.length:Nat):Int):=of_decide_eq_true hd2;omega
    obtain ⟨r,hr⟩:∃ r,b.recs[i]?=some r:=⟨_,List.getElem?_eq_getElem hil⟩
    have hck:ckE r=0:=hall r (List.mem_of_getElem? hr)
    have hel:=xw (first:=ak b) hck
    have hstep:bh b++(b.recs.take (i+1)).flatMap (fun r=>encB r (ak b))=(bh b++(b.recs.take i).flatMap fun r=>encB r (ak b))++encB r (ak b):=by
     rw [List.take_add_one,hr]
     simp
    have hol:(bh b++(b.recs.take i).flatMap fun r=>encB r (ak b)).length<=48+4100 * b.recs.length:=by
     rw [List.length_append,cd]
     have:=Dw (f:=ak b) (l:=b.recs.take i) fun x hx=>hall x (List.mem_of_mem_take hx)
     rw [List.length_take] at this
     omega
    refine .skip (.next (.seq (.block (.sr ?_))))
    refine .idx ?_ so37
    refine .ldAR (i:=i * 6) (us:=r.v) ?_ ji hR (i5 Rc.v_len _ _ _ hr) (oe Rc.v_len hil)
    refine .alloc z95 fun b13_5=>?_
    refine .stV ?_ ji
    refine .x ?_
    refine .ldA ?_ ji
    refine .move ?_
    refine .call (hc:=Tryz.call163) (sp:=Jh (r:=r) (first:=ak b)) (h:=?_)
    rintro _ _ (⟨h0,_,_⟩ | ⟨_,_,u,rfl,rfl⟩)
    ·exact absurd (Rp hck hfr) h0
    refine .rowOpen (v:=u) (hx:=fun h=>by have:=congrArg List.length h;rw [ag] at this;have:=rn r (ak b);simp only [List.length_nil] at *;omega) fun A4 c4 hv4 hR4 h41 h42=>?_
    subst hv4
    refine .move ?_
    refine .extract (.extract ?_)
    refine .assign (.assign (.z (.seq (.sr (.move ?_)))))
    refine .nei (.z ?_)
    refine .condF rfl rfl ?_
    refine .skip (.next (.region (.move (.move ?_))))
    refine .to (A:=buf g 5 q (bvs (bh b++(b.recs.take i).flatMap fun r=>encB r (ak b)))) (di hq2) ?_
    rw [ag]
    refine .appendAny (m:=(encB r (ak b)).length) (news:=bvs (encB r (ak b))) (R:=rowR 5 1 (.slice (some A4) (encB r (ak b)).length c4) (encB r (ak b)).length (bvs (encB r (ak b)))) so79 (by decide) (by repeat (first | exact .here | apply Rem.there | apply Repl.there | apply Mem.there)) hR4 (by repeat (first | exact .here | apply Rem.there | apply Repl.there | apply Mem.there)) (by rw [ag,Nat.mul_one]) (bo _) (by unfold maxLen;omega) (by omega) ⟨_,z5,rfl⟩ (fun v' hv'=>?_)
    refine .toE (A:=rowR 5 1 v' ((bh b++(b.recs.take i).flatMap fun r=>encB r (ak b)).length+(encB r (ak b)).length) (bvs (bh b++(b.recs.take i).flatMap fun r=>encB r (ak b))++bvs (encB r (ak b)))) (br (fun h=>by have:=(hv'.1 h).1;cases this)) ?_
    rintro ⟨g2,q2⟩ ⟨rfl,h2a,h2b,_⟩
    rw [<- bj,<-List.length_append,<-hstep]
    refine .assign (.nil (.blockNormal (.next (.region ?_))))
    refine .add ?_
    refine .move (.nil ?_)
    exact .back (i+1,g2,q2) ⟨hil,by rw [hstep,List.length_append];exact h2a,h2b⟩ (show b.recs.length - (i+1) < b.recs.length - i by omega)
   ·have hge:i=b.recs.length:=by have h:¬ (i:Int) < ((b.recs.length:Nat):Int):=of_decide_eq_false hd2;omega
    subst hge
    have hraw:(bh b++(b.recs.take b.recs.length).flatMap fun r=>encB r (ak b))=cq b:=by rw [List.take_length];rfl
    rw [hraw] at hq1
    have hge48:48<=(cq b).length:=by unfold cq;rw [List.length_append,cd];omega
    have hll:(fq b).length=(cq b).length:=by unfold fq;rw [an]
    have hcr:=vp ((fq b).drop 16)
    rw [hraw]
    refine .exit (.thenExit (.thenExit (.blockExit (?_))))
    refine .next (.sr (.move (.move ?_)))
    refine .lenS ?_ sl79
    refine .sub ?_
    refine .call (hc:=Tryz.call160) (sp:=qp (xs:=cq b) (v:=((cq b).length:Int) - 12) Reads.buf rfl (by omega) (by decide) (by decide) (by omega)) (h:=?_)
    rintro _ _ ⟨g6,q6,⟨rfl,h6a,h6b⟩,rfl⟩
    refine .assign (.x ?_)
    refine .to (A:=buf g6 5 q6 (bvs (put (cq b) 8 4 true (u64N (((cq b).length:Int) - 12))))) (A':=buf g6 5 q6 (bvs (fq b))) (fun h hh=>hh) ?_
    refine .move (.move ?_)
    refine .slcL ?_ so79
    refine .cast (d:=96) (u:=.slice (some ⟨g6,0+16,none⟩) ((cq b).length - 16) (q6 - 16)) rfl (by rw [if_neg (by show ¬ q6=16;omega)];rfl) ?_
    refine .call (hc:=Tryz.call134) (sp:=Ox (R:=buf g6 5 q6 (bvs (fq b))) (xs:=(fq b).drop 16) (by rw [ei];exact Reads.buf.drop 16) (by rw [List.length_drop,hll]) (by omega)) (h:=?_)
    rintro _ _ ⟨rfl,rfl⟩
    refine .cvt ?_ Rd un3
    refine .cast (d:=98) (u:=.int .i64 (((crcI ((fq b).drop 16)).toNat:Nat):Int)) rfl (cI9 (by rw [show crcI ((fq b).drop 16)=(((crcI ((fq b).drop 16)).toNat:Nat):Int) by omega,ft (by omega)];rfl)) ?_
    refine .call (hc:=Tryz.call160) (sp:=qp (xs:=fq b) (v:=(((crcI ((fq b).drop 16)).toNat:Nat):Int)) Reads.buf hll (by omega) (by decide) (by decide) (by omega)) (h:=?_)
    rintro _ _ ⟨g7,q7,⟨rfl,h7a,h7b⟩,rfl⟩
    refine .assign (.assign (.z (.ret (?_))))
    rw [rl (by omega)]
    have hBl:(batB b).length=(cq b).length:=kf b
    exact .ret2 (h1:=.tmp (t:=2) rfl) (h2:=.tmp (t:=3) rfl) ⟨_,.inr ⟨hE0,g7,q7,⟨by rw [hBl],by rw [hBl];exact h7a,h7b⟩,rfl⟩,Am.auto⟩
theorem ol {R:HP} {A:Option Addr} {c:Nat} {b:Bt} (hR:Reads R A b.rv) (hl:b.recs.length<=10000):Spec Tryz.prog 40 #[.agg (b.v (.slice A b.recs.length c)).toArray] [R]
  fun F v M=>(batE b≠0/\v=.tuple #[.slice none 0 0,.int .i64 (batE b)]/\M=R :: F) ∨
   (batE b=0/\∃ g q,(v=.tuple #[.slice (some ⟨g,0,none⟩) (batB b).length q,.int .i64 0]/\(batB b).length<=q/\q<=maxLen)/\M=buf g 5 q (bvs (batB b)) :: R :: F):=by
 refine Spec.intro Tryz.func40 rfl rfl fun B F=>?_
 simp only [Tryz.ntmps40,List.cons_append,List.nil_append,env0,Nat.reduceAdd]
 refine .sr ?_
 refine .box fun b1=>?_
 refine .assign (.assign (.x ?_))
 refine .ldA ?_ dz
 refine .call (hc:=Tryz.call88) (sp:=Rq hR hl) (h:=?_)
 rintro _ _ (⟨hE,rfl,rfl⟩ | ⟨hE,g,q,⟨rfl,h1,h2⟩,rfl⟩)
 ·have hB:batE b=lu b:=by unfold batE;rw [if_neg hE]
  refine .move ?_
  refine .extract (.extract ?_)
  refine .assign (.assign (.z (.seq (.sr (.move ?_)))))
  refine .nei (.z ?_)
  refine .condT rfl (cB9 (by simp [hE])) ?_
  refine .sr (.move (.assign (.assign (.z ?_))))
  refine .ret (.thenRet (?_))
  exact .ret2 (h1:=.tmp (t:=2) rfl) (h2:=.tmp (t:=3) rfl) ⟨_,.inl ⟨by rw [hB];exact hE,by rw [hB];rfl,rfl⟩,Am.auto⟩
 ·refine .move ?_
  refine .extract (.extract ?_)
  refine .assign (.assign (.z (.seq (.sr (.move ?_)))))
  refine .nei (.z ?_)
  refine .condF rfl rfl ?_
  refine .skip (.next (.seq (.sr (.move ?_))))
  refine .lenS ?_ sl79
  refine .gtr (.z ?_)
  refine .cond rfl (fun hb=>?_) (fun hb=>?_)
  ·have hlt:6000 < (batB b).length:=by have h:(6000:Int) < (((batB b).length:Nat):Int):=of_decide_eq_true hb;omega
   have hB:batE b=2:=by unfold batE;rw [if_pos hE,if_pos hlt]
   refine .sr (.assign (.assign (.z ?_)))
   refine .ret (.thenRet (?_))
   exact .ret2 (h1:=.tmp (t:=2) rfl) (h2:=.tmp (t:=3) rfl) ⟨_,.inl ⟨by rw [hB];decide,by rw [hB],rfl⟩,Am.auto⟩
  ·have hlt:¬ 6000 < (batB b).length:=by have h:¬ (6000:Int) < (((batB b).length:Nat):Int):=of_decide_eq_false hb;omega
   have hB:batE b=0:=by unfold batE;rw [if_pos hE,if_neg hlt]
   refine .skip (.next (.sr (.move (.assign (.assign (.z ?_))))))
   refine .ret (?_)
   exact .ret2 (h1:=.tmp (t:=2) rfl) (h2:=.tmp (t:=3) rfl) ⟨_,.inr ⟨hB,g,q,⟨rfl,h1,h2⟩,rfl⟩,Am.auto⟩
def fu :Nat->List Rc->List Rc
 | _,[]=>[]
 | k,r :: l=>{ r with off:=((k:Nat):Int) } :: fu (k+1) l
theorem jj :∀ (l:List Rc) (k:Nat),(fu k l).length=l.length
 | [],_=>rfl
 | r :: l,k=>by simp only [fu,List.length_cons,jj l]
theorem qr :∀ (l m:List Rc) (k:Nat),fu k (l++m)=fu k l++fu (k+l.length) m
 | [],_,_=>by simp [fu]
 | r :: l,m,k=>by
  simp only [List.cons_append,fu,qr l m,List.length_cons]
  rw [show k+1+l.length=k+(l.length+1) by omega]
theorem Fo {l:List Rc} {i:Nat} {r:Rc} (h:l[i]?=some r):fu 0 (l.take (i+1))=fu 0 (l.take i)++[{ r with off:=((i:Nat):Int) }]:=by
 have hi:i < l.length:=(List.getElem?_eq_some_iff.1 h).1
 rw [List.take_add_one,h,Option.toList_some,qr,List.length_take,show 0+min i l.length=i by omega]
 rfl
def az (base prod seq:Int) (l:List Rc):Bt:=⟨base,max ((l.length:Nat):Int) 1,prod,seq,fu 0 l⟩
theorem Jk :av Tryz.prog 44 [] #[.int .i64 0,.int .i64 0,.int .i64 0,.int .i64 0,.slice none 0 0]:=fun w=>by kernel_rfl
theorem Dx (a b:Bool) (s t:ByteArray) (x y:Int):bc Tryz.prog 37 1 [(0,.agg #[.bool a,.string s,.bool b,.string t,.int .i64 x,.int .i64 y])] 95 #[.bool a,.string s,.bool b,.string t,.int .i64 x,.int .i64 y]:=fun w=>by kernel_rfl
section
variable {p:Pl} {dn:aa} {N:Nat} {T:FT} {sl:List Slot} {fl:List PF}
theorem DirF.up (h:DirF p dn N T sl fl) {N':Nat} (hN:N<=N'):DirF p dn N' T sl fl :=
 ⟨h.dnm,h.root,h.dir,h.ok,Nat.le_trans h.len hN,h.slot,h.file,h.none',fun x hx=>by have:=h.top x hx;omega,h.inj,h.tot'⟩
end
abbrev SegA :=Nat×List Bt
def byt (x:SegA):aa:=x.2.flatMap batB
def bytT (ss:List SegA):Nat:=(ss.map fun x=>(byt x).length).sum
def FilesOf (fl:List PF) (ss:List SegA):Prop:=fl.map (fun x=>(x.nm,x.c))=ss.map (fun y=>(al y.1,byt y))
theorem FilesOf.split {fl:List PF} {pre post:List SegA} {y:SegA} (h:FilesOf fl (pre++y :: post)):∃ a x b,fl=a++x :: b/\FilesOf a pre/\(x.nm=al y.1/\x.c=byt y)/\FilesOf b post:=by
 unfold FilesOf at h
 rw [List.map_append,List.map_cons,List.map_eq_append_iff] at h
 obtain ⟨a,l,rfl,h1,h2⟩:=h
 rw [List.map_eq_cons_iff] at h2
 obtain ⟨x,b,rfl,h3,h4⟩:=h2
 injection h3 with h3 h5
 exact ⟨a,x,b,rfl,h1,⟨h3,h5⟩,h4⟩
theorem FilesOf.join {a b:List PF} {x:PF} {pre post:List SegA} {y:SegA} (h1:FilesOf a pre) (h2:x.nm=al y.1/\x.c=byt y) (h3:FilesOf b post):FilesOf (a++x :: b) (pre++y :: post):=by
 unfold FilesOf at *
 rw [List.map_append,List.map_append,List.map_cons,List.map_cons,h1,h3,h2.1,h2.2]
theorem FilesOf.nm {fl:List PF} {ss:List SegA} (h:FilesOf fl ss) {x:PF} (hx:x∈fl):∃ y∈ss,x.nm=al y.1/\x.c=byt y:=by
 have h1:(x.nm,x.c)∈ss.map (fun y=>(al y.1,byt y)):=by
  rw [<- h]
  exact List.mem_map.2 ⟨x,hx,rfl⟩
 obtain ⟨y,hy,h2⟩:=List.mem_map.1 h1
 injection h2 with h2 h3
 exact ⟨y,hy,h2.symm,h3.symm⟩
theorem O6 (n:Nat):has n * 512<=n+1023:=by
 unfold has dat
 split<;>omega
theorem FilesOf.hasB {fl:List PF} {ss:List SegA} (h:FilesOf fl ss):hasF fl * 512<=bytT ss+1023 * ss.length:=by
 induction fl generalizing ss with
 | nil=>show 0 * 512<=_;omega
 | cons x fl ih =>
  cases ss with
  | nil=>exact absurd h (by unfold FilesOf;simp)
  | cons y ss =>
   unfold FilesOf at h
   rw [List.map_cons,List.map_cons] at h
   injection h with h1 h2
   injection h1 with h1 h3
   have h4:=ih (ss:=ss) h2
   have h5:=O6 x.c.length
   rw [h3] at h5
   have e1:hasF (x :: fl)=has (byt y).length+hasF fl:=by unfold hasF;rw [List.map_cons,List.sum_cons,h3]
   have e2:bytT (y :: ss)=(byt y).length+bytT ss:=by unfold bytT;rw [List.map_cons,List.sum_cons]
   have e3:(y :: ss).length=ss.length+1:=rfl
   rw [e1,e2,e3]
   generalize has (byt y).length=a at *
   generalize (byt y).length=b at *
   generalize hasF fl=c at *
   generalize bytT ss=d at *
   generalize ss.length=n at *
   clear ih h1 h2 h3 e1 e2 e3
   rw [Nat.add_mul,Nat.mul_add,Nat.mul_one]
   refine Nat.le_trans (Nat.add_le_add h5 h4) (Nat.le_of_eq ?_)
   ac_rfl
theorem xy (a b:List SegA):bytT (a++b)=bytT a+bytT b:=by
 unfold bytT
 rw [List.map_append,List.sum_append]
structure PlP (p:Pl):Prop where
 ok:PlOk p
 dc:400<=p.dc
 rw:Rw p 0 57
theorem PlP.w {p:Pl} (h:PlP p) {W c:Nat} (hc:W+c<=57):Rw p W c:=by
 have h1:=h.rw
 unfold Rw at h1 ⊢
 omega
structure FitsP (p:Pl) (N:Nat) (ss:List SegA):Prop where
 n:N<=200
 i:N+3<=p.ino
 len:ss.length<=60
 byt:bytT ss<=90000
theorem FitsP.fit {p:Pl} {N:Nat} {ss:List SegA} {fl:List PF} (h:FitsP p N ss) (hp:PlP p) (hf:FilesOf fl ss):1+has (64 * (N+1))+hasF fl+14<=p.dc:=by
 have h1:=h.n;have h2:=h.len;have h3:=h.byt;have h4:=hf.hasB;have h5:=O6 (64 * (N+1));have h6:=hp.dc
 omega
def DBF (f:Nat) (p:Pl) (dn:aa) (N:Nat) (F0:FM) (ss:List SegA) (W:Nat):HP:=exH (fun fl:List PF=>FilesOf fl ss) (fun fl=>[DB f p dn N F0 fl W])
theorem DBF.opens (f:Nat) (p:Pl) (dn:aa) (N:Nat) (F0:FM) (ss:List SegA) (W:Nat):Opens (DBF f p dn N F0 ss W) (fun fl:List PF=>FilesOf fl ss) (fun fl=>[DB f p dn N F0 fl W]):=exH.opens
def DRF (f:Nat) (p:Pl) (dn:aa) (N:Nat) (ss:List SegA):HP:=exH (fun fl:List PF=>FilesOf fl ss) (fun fl=>[DR f p dn N fl])
theorem DRF.opens (f:Nat) (p:Pl) (dn:aa) (N:Nat) (ss:List SegA):Opens (DRF f p dn N ss) (fun fl:List PF=>FilesOf fl ss) (fun fl=>[DR f p dn N fl]):=exH.opens
theorem DB.up {f:Nat} {p:Pl} {dn:aa} {N N' W:Nat} {F0:FM} {fl:List PF} {B:Base} {w:World} {M:List HP} (hN:N<=N') (hs:Sat B w (DB f p dn N F0 fl W :: M)):Sat B w (DB f p dn N' F0 fl W :: M):=by
 obtain ⟨x,hx,h1⟩:=Sat.opens hs (DB.opens f p dn N F0 fl W)
 exact Sat.shuts (DB.opens f p dn N' F0 fl W) (x:=x) (hx.up hN) h1
theorem DBF.up {f:Nat} {p:Pl} {dn:aa} {N N' W:Nat} {F0:FM} {ss:List SegA} {B:Base} {w:World} {M:List HP} (hN:N<=N') (hs:Sat B w (DBF f p dn N F0 ss W :: M)):Sat B w (DBF f p dn N' F0 ss W :: M):=by
 obtain ⟨x,hx,h1⟩:=Sat.opens hs (DBF.opens f p dn N F0 ss W)
 exact Sat.shuts (DBF.opens f p dn N' F0 ss W) (x:=x) hx (DB.up hN h1)
theorem DB.wkn {f:Nat} {p:Pl} {dn:aa} {N W W':Nat} {F0:FM} {fl:List PF} {B:Base} {w:World} {M:List HP} (hW:W<=W') (hs:Sat B w (DB f p dn N F0 fl W :: M)):Sat B w (DB f p dn N F0 fl W' :: M):=by
 obtain ⟨x,hx,h1⟩:=Sat.opens hs (DB.opens f p dn N F0 fl W)
 exact Sat.shuts (DB.opens f p dn N F0 fl W') (x:=x) hx (FSB.wkn hW h1)
theorem DBF.wkn {f:Nat} {p:Pl} {dn:aa} {N W W':Nat} {F0:FM} {ss:List SegA} {B:Base} {w:World} {M:List HP} (hW:W<=W') (hs:Sat B w (DBF f p dn N F0 ss W :: M)):Sat B w (DBF f p dn N F0 ss W' :: M):=by
 obtain ⟨x,hx,h1⟩:=Sat.opens hs (DBF.opens f p dn N F0 ss W)
 exact Sat.shuts (DBF.opens f p dn N F0 ss W') (x:=x) hx (DB.wkn hW h1)
theorem Dy {f:Nat} {p:Pl} {dn:aa} {N W b:Nat} {F0:FM} {ss:List SegA} (hp:PlP p) (hf:FitsP p N ss) (hw:W+14<=57) (hb:b<=1125899906842624) (hx:∀ y∈ss,y.1≠b/\y.1<=1125899906842624) :
  Spec Tryz.prog 100 #[.pointer (some ⟨f,0,none⟩),sv (d4 dn (al b))] [DBF f p dn N F0 ss W] fun F v M=>v=okV/\M=DBF f p dn (N+1) F0 (ss++[(b,[])]) (W+9) :: F:=by
 refine Spec.opens (DBF.opens f p dn N F0 ss W) fun fl hfl=>?_
 have h1:=hf.n;have h2:=hf.i;have h3:=hf.fit hp hfl
 refine Spec.post' (Na (f:=f) (p:=p) (dn:=dn) (N:=N) (W:=W) (F0:=F0) (fl:=fl) (nm:=al b) hp.ok (by omega) (by omega) (Nc b) (fun x hx'=>?_) (by rw [ce];decide) (hp.w hw) (by omega)) ?_
 ·obtain ⟨y,hy,h4,_⟩:=hfl.nm hx'
  rw [h4]
  intro h5
  have h6:=hx y hy
  exact h6.1 (I8 (by omega) (by omega) h5)
 ·rintro F v M B w ⟨i,q,rfl,rfl⟩ hs
  exact ⟨_,⟨rfl,rfl⟩,Sat.shuts (DBF.opens f p dn (N+1) F0 (ss++[(b,[])]) (W+9)) (hfl.join (b:=[]) (x:=⟨i,q,al b,[]⟩) (post:=[]) (y:=(b,[])) ⟨rfl,rfl⟩ (show FilesOf [] [] from rfl)) hs⟩
theorem xz {f m cc:Nat} {p:Pl} {dn:aa} {N W b:Nat} {F0:FM} {bs:List Bt} {bt:Bt} {pre post:List SegA} {R:HP} {A:Option Addr} (hp:PlP p) (hf:FitsP p N (pre++(b,bs) :: post)) (hw:W+40<=57) (hR:Reads R A (bvs (batB bt))) (hm:(batB bt).length=m) (hcc:m<=cc) (hcb:cc<=maxLen) (hm6:m<=6000) (hbg:(bs.flatMap batB).length+m<=70656) :
  Spec Tryz.prog 96 #[.pointer (some ⟨f,0,none⟩),sv (d4 dn (al b)),.slice A m cc] [DBF f p dn N F0 (pre++(b,bs) :: post) W,R] fun F v M=>v=okV/\M=DBF f p dn N F0 (pre++(b,bs++[bt]) :: post) (W+40) :: R :: F:=by
 refine Spec.opens (DBF.opens f p dn N F0 _ W) fun fl hfl=>?_
 have h1:=hf.n;have h2:=hf.i;have h3:=hf.fit hp hfl
 obtain ⟨fa,x,fb,rfl,ha,⟨hxn,hxc⟩,hb⟩:=hfl.split
 simp only at hxn hxc
 have h4:=xp (show 64 * N<=64 * (N+1) by omega)
 have h5:=Nb (f:=f) (p:=p) (dn:=dn) (N:=N) (W:=W) (F0:=F0) (pre:=fa) (post:=fb) (x:=x) (bs:=batB bt) (R:=R) (A:=A) (m:=m) (cc:=cc) hp.ok (by omega) (by omega) (by rw [hxn,ce];decide) (.inr hR) hm hcc hcb hm6 (by rw [hxc];exact hbg) (hp.w hw) (by omega)
 rw [hxn] at h5
 refine Spec.post' h5 ?_
 rintro F v M B w ⟨rfl,rfl⟩ hs
 refine ⟨_,⟨rfl,rfl⟩,Sat.shuts (DBF.opens f p dn N F0 (pre++(b,bs++[bt]) :: post) (W+40)) (ha.join (y:=(b,bs++[bt])) ⟨rfl,?_⟩ hb) hs⟩
 show x.c++batB bt=byt (b,bs++[bt])
 rw [hxc]
 unfold byt
 rw [List.flatMap_append,List.flatMap_singleton]
theorem Fp {f:Nat} {p:Pl} {dn:aa} {N N' W:Nat} {ss ss':List SegA} {X0 X':HP} {k:FuncId} {cap:Array Value} (ho:PlOk p) (hc:∀ args w,(callFunc k args).run Tryz.prog w=.ok (.enter k args) w)
  (sp:∀ F0,Spec Tryz.prog k cap [DBF f p dn N F0 ss 0,X0] fun F v M=>v=okV/\M=DBF f p dn N' F0 ss' W :: X' :: F):Spec Tryz.prog 41 #[.pointer (some ⟨f,0,none⟩),.func (.func k) #[] cap] [DRF f p dn N ss,X0] fun F v M=>v=okV/\M=DRF f p dn N' ss' :: X' :: F:=by
 refine Spec.opens (DRF.opens f p dn N ss) fun fl hfl=>?_
 refine Spec.post' (Fj (f:=f) (p:=p) (dn:=dn) (N:=N) (N':=N') (fl:=fl) (β:=List PF) (qb:=fun y=>FilesOf y ss') (fl':=fun y=>y) (W':=fun _=>W) (X0:=X0) (X':=fun _=>X') ho hc fun F0=>?_) ?_
 ·refine Spec.post' (Spec.pre' (sp F0) (pre':=[DB f p dn N F0 fl 0,X0]) fun B w F hs=>Sat.shuts (DBF.opens f p dn N F0 ss 0) hfl hs) ?_
  rintro F v M B w ⟨rfl,rfl⟩ hs
  obtain ⟨y,hy,h1⟩:=Sat.opens hs (DBF.opens f p dn N' F0 ss' W)
  exact ⟨_,⟨y,hy,rfl,rfl⟩,h1⟩
 ·rintro F v M B w ⟨y,hy,rfl,rfl⟩ hs
  exact ⟨_,⟨rfl,rfl⟩,Sat.shuts (DRF.opens f p dn N' ss') hy hs⟩
section
variable {P:Program} {B:Base} {n:Fr} {Q Q':Exit->Act->World->Prop} {e:Env} {L:List HP} {ops:Array Oper} {l:List Oper}
variable {d:Nat} {ty:TypeId} {pos:String} {af:Array Edge} {x y z:Operand} {gd:Option (Nat×Bool)}
theorem By (xs ys:aa):bstr xs++bstr ys=bstr (xs++ys):=by
 apply ByteArray.ext
 simp [bstr]
theorem Qt.catS {t u:TypeId} (xs ys:aa) (hl:xs.length+ys.length<=9223372036854775807) (hx:evo e x=some (sv xs):=by rfl) (hy:evo e y=some (sv ys):=by rfl) :
  Qt P B n e L ⟨some d,.binOp .add t x y u,ty,pos,af,gd⟩ (sv (xs++ys)) :=
 Qt.strs (xs:=bstr xs) (ys:=bstr ys) (fun w=>by
  rw [binOp_string_add,run_string_add_sum w _ _ (by rw [cp,cp];exact hl),By];rfl) hx hy
theorem WL.catS {t u:TypeId} (xs ys:aa) (h:WL P B n ops l Q ((d,sv (xs++ys)) :: e) L) (hl:xs.length+ys.length<=9223372036854775807) (hx:evo e x=some (sv xs):=by rfl) (hy:evo e y=some (sv ys):=by rfl) (hd:Nat.ble (d+1) n.k=true:=by rfl) :
  WL P B n ops (⟨some d,.binOp .add t x y u,ty,pos,af,none⟩ :: l) Q e L:=WL.pure h hd (Qt.catS xs ys hl hx hy)
end
theorem ar149 :mc Tryz.prog 149 5 20 1=true:=by kernel_rfl
theorem Dz :ad Tryz.prog 23 0 0=true:=by kernel_rfl
theorem O7 :ad Tryz.prog 23 1 1=true:=by kernel_rfl
theorem O8 :ad Tryz.prog 23 2 2=true:=by kernel_rfl
theorem O9 :ad Tryz.prog 23 4 4=true:=by kernel_rfl
theorem z149 :ba Tryz.prog 149=some (#[.int .u8 0,.int .u8 0,.int .u8 0,.int .u8 0,.int .u8 0,.int .u8 0,.int .u8 0,.int .u8 0,.int .u8 0,.int .u8 0,.int .u8 0,.int .u8 0,.int .u8 0,.int .u8 0,.int .u8 0,.int .u8 0,.int .u8 0,.int .u8 0,.int .u8 0,.int .u8 0]):=by kernel_rfl
theorem un149 :Tryz.prog.underlying 149=some (.array 20 5):=by kernel_rfl
section
variable {P:Program} {B:Base} {n:Fr} {Q:Exit->Act->World->Prop} {e:Env} {L:List HP} {ops:Array Oper} {l:List Oper} {d:Nat} {ty:TypeId} {pos:String} {af:Array Edge} {x:Operand}
theorem WL.cvtSB {s t:Nat} (xs:aa) (h:∀ b c cs el fr,cs.toList.take xs.length=bvs xs->xs.length<=c->WL P B n ops l Q ((d,.slice (some ⟨b,0,none⟩) xs.length c) :: e) (pt b (.cells cs el fr) :: L)) (hs:kr P s=true) (ht:o6 P t=true)
  (hx:evo e x=some (sv xs):=by rfl) (hd:Nat.ble (d+1) n.k=true:=by rfl):WL P B n ops (⟨some d,.convert s t x,ty,pos,af,none⟩ :: l) Q e L :=
 WL.step rfl fun a w ha hsat=>by
  obtain ⟨el,h1,h2⟩:=Ch ht
  have hsz:(bstr xs).size=xs.length:=by unfold bstr;rfl
  have hrun:=run_bytes_of_string w s t el (bstr xs) (kj hs) h1 h2
  rw [hsz] at hrun
  have hcap:xs.length<=grownCap w xs.length 0 el:=grownCap_ge w xs.length 0 el
  refine ⟨.slice (some ⟨w.heap.size,0,none⟩) xs.length (grownCap w xs.length 0 el),w.drew.alloc (.cells (bytesRow (bstr xs) (grownCap w xs.length 0 el)) el ((bytesRow (bstr xs) (grownCap w xs.length 0 el)).size,(bytesRow (bstr xs) (grownCap w xs.length 0 el)).size+1)),_,_,?_,ha.put hd _,(hsat.drew).new _,h w.heap.size (grownCap w xs.length 0 el) (bytesRow (bstr xs) (grownCap w xs.length 0 el)) el ((bytesRow (bstr xs) (grownCap w xs.length 0 el)).size,(bytesRow (bstr xs) (grownCap w xs.length 0 el)).size+1) ?_ hcap⟩
  ·simp only [execOp,ha.eval hx]
   rw [Sem.run_bind,show sv xs=.string (bstr xs) from rfl,hrun]
   rfl
  ·unfold bytesRow bvs bv bstr
   simp
end
structure Sts where
 seg:Int
 bytes:Int
 age:Int
 comp:Bool
 delay:Int
def Sts.v (s:Sts):List Value:=[.int .i64 s.seg,.int .i64 s.bytes,.int .i64 s.age,.bool s.comp,.int .i64 s.delay]
def ko (s:Sts):Bool:=decide (512<=s.seg) && (decide (s.seg<=8192) && (decide (-1<=s.bytes) && (decide (s.bytes<=1099511627776) && (decide (-1<=s.age) && (decide (s.age<=1125899906842624) && (decide (0<=s.delay) && decide (s.delay<=1125899906842624)))))))
theorem zu {a:Nat} (h:a < 2 ^ 63):IntKind.i64.wrap ((a:Nat):Int)=(a:Int):=by
 simp only [IntKind.wrap,IntKind.bits,IntKind.signed]
 simp
 omega
theorem Nl {b el:Nat} {xs:List Value}:Reads (row b el xs) (some ⟨b,0,none⟩) xs:=by
 unfold row
 exact Reads.pt
theorem x0 {s:Sts}:Spec Tryz.prog 10 #[.agg s.v.toArray] [] fun F v M=>v=.bool (ko s)/\M=F:=by
 refine Spec.intro Tryz.func10 rfl rfl fun B F=>?_
 simp only [Tryz.ntmps10,List.cons_append,List.nil_append,env0,Nat.reduceAdd]
 obtain ⟨seg,bytes,age,comp,delay⟩:=s
 refine .sr ?_
 refine .box fun b1=>?_
 refine .assign (.x ?_)
 refine .fa ?_ Dz
 refine .ld ?_ sc3
 refine .geq ?_
 refine .move ?_
 refine .split (t:=6) rfl (fun g0=>?_) (fun g0=>?_)
 ·refine .gT ?_
  refine .fa ?_ Dz
  refine .gT ?_
  refine .ld ?_ sc3
  refine .gT ?_
  refine .leq ?_
  refine .pickT (.move ?_)
  refine .split (t:=11) rfl (fun g1=>?_) (fun g1=>?_)
  ·refine .gT ?_
   refine .fa ?_ O7
   refine .gT ?_
   refine .ld ?_ sc3
   refine .gT ?_
   refine .geq ?_
   refine .pickT (.move ?_)
   refine .split (t:=16) rfl (fun g2=>?_) (fun g2=>?_)
   ·refine .gT ?_
    refine .fa ?_ O7
    refine .gT ?_
    refine .ld ?_ sc3
    refine .gT ?_
    refine .leq ?_
    refine .pickT (.move ?_)
    refine .split (t:=21) rfl (fun g3=>?_) (fun g3=>?_)
    ·refine .gT ?_
     refine .fa ?_ O8
     refine .gT ?_
     refine .ld ?_ sc3
     refine .gT ?_
     refine .geq ?_
     refine .pickT (.move ?_)
     refine .split (t:=26) rfl (fun g4=>?_) (fun g4=>?_)
     ·refine .gT ?_
      refine .fa ?_ O8
      refine .gT ?_
      refine .ld ?_ sc3
      refine .gT ?_
      refine .leq ?_
      refine .pickT (.move ?_)
      refine .split (t:=31) rfl (fun g5=>?_) (fun g5=>?_)
      ·refine .gT ?_
       refine .fa ?_ O9
       refine .gT ?_
       refine .ld ?_ sc3
       refine .gT ?_
       refine .geq ?_
       refine .pickT (.move ?_)
       refine .split (t:=36) rfl (fun g6=>?_) (fun g6=>?_)
       ·refine .gT ?_
        refine .fa ?_ O9
        refine .gT ?_
        refine .ld ?_ sc3
        refine .gT ?_
        refine .leq ?_
        refine .pickT (.assign (.z (.ret (?_))))
        exact .ret1 (h1:=.tmp (t:=2) rfl) ⟨_,⟨cB9 (by unfold ko;simp only [show decide (512<=seg)=true from g0,show decide (seg<=8192)=true from g1,show decide (-1<=bytes)=true from g2,show decide (bytes<=1099511627776)=true from g3,show decide (-1<=age)=true from g4,show decide (age<=1125899906842624)=true from g5,show decide (0<=delay)=true from g6,Bool.true_and]),rfl⟩,Am.auto⟩
       ·refine .gF (.gF (.gF (.pickF (.assign (.z ?_)))))
        refine .ret (?_)
        exact .ret1 (h1:=.tmp (t:=2) rfl) ⟨_,⟨cB9 (by unfold ko;simp only [show decide (512<=seg)=true from g0,show decide (seg<=8192)=true from g1,show decide (-1<=bytes)=true from g2,show decide (bytes<=1099511627776)=true from g3,show decide (-1<=age)=true from g4,show decide (age<=1125899906842624)=true from g5,show decide (0<=delay)=false from g6,Bool.true_and,Bool.false_and]),rfl⟩,Am.auto⟩
      ·refine .gF (.gF (.gF (.pickF (.move (.gF ?_)))))
       refine .gF (.gF (.pickF (.assign (.z (.ret (?_))))))
       exact .ret1 (h1:=.tmp (t:=2) rfl) ⟨_,⟨cB9 (by unfold ko;simp only [show decide (512<=seg)=true from g0,show decide (seg<=8192)=true from g1,show decide (-1<=bytes)=true from g2,show decide (bytes<=1099511627776)=true from g3,show decide (-1<=age)=true from g4,show decide (age<=1125899906842624)=false from g5,Bool.true_and,Bool.false_and]),rfl⟩,Am.auto⟩
     ·refine .gF (.gF (.gF (.pickF (.move (.gF ?_)))))
      refine .gF (.gF (.pickF (.move (.gF (.gF ?_)))))
      refine .gF (.pickF (.assign (.z (.ret (?_)))))
      exact .ret1 (h1:=.tmp (t:=2) rfl) ⟨_,⟨cB9 (by unfold ko;simp only [show decide (512<=seg)=true from g0,show decide (seg<=8192)=true from g1,show decide (-1<=bytes)=true from g2,show decide (bytes<=1099511627776)=true from g3,show decide (-1<=age)=false from g4,Bool.true_and,Bool.false_and]),rfl⟩,Am.auto⟩
    ·refine .gF (.gF (.gF (.pickF (.move (.gF ?_)))))
     refine .gF (.gF (.pickF (.move (.gF (.gF ?_)))))
     refine .gF (.pickF (.move (.gF (.gF (.gF ?_)))))
     refine .pickF (.assign (.z (.ret (?_))))
     exact .ret1 (h1:=.tmp (t:=2) rfl) ⟨_,⟨cB9 (by unfold ko;simp only [show decide (512<=seg)=true from g0,show decide (seg<=8192)=true from g1,show decide (-1<=bytes)=true from g2,show decide (bytes<=1099511627776)=false from g3,Bool.true_and,Bool.false_and]),rfl⟩,Am.auto⟩
   ·refine .gF (.gF (.gF (.pickF (.move (.gF ?_)))))
    refine .gF (.gF (.pickF (.move (.gF (.gF ?_)))))
    refine .gF (.pickF (.move (.gF (.gF (.gF ?_)))))
    refine .pickF (.move (.gF (.gF (.gF (.pickF ?_)))))
    refine .assign (.z (.ret (?_)))
    exact .ret1 (h1:=.tmp (t:=2) rfl) ⟨_,⟨cB9 (by unfold ko;simp only [show decide (512<=seg)=true from g0,show decide (seg<=8192)=true from g1,show decide (-1<=bytes)=false from g2,Bool.true_and,Bool.false_and]),rfl⟩,Am.auto⟩
  ·refine .gF (.gF (.gF (.pickF (.move (.gF ?_)))))
   refine .gF (.gF (.pickF (.move (.gF (.gF ?_)))))
   refine .gF (.pickF (.move (.gF (.gF (.gF ?_)))))
   refine .pickF (.move (.gF (.gF (.gF (.pickF ?_)))))
   refine .move (.gF (.gF (.gF (.pickF ?_))))
   refine .assign (.z (.ret (?_)))
   exact .ret1 (h1:=.tmp (t:=2) rfl) ⟨_,⟨cB9 (by unfold ko;simp only [show decide (512<=seg)=true from g0,show decide (seg<=8192)=false from g1,Bool.true_and,Bool.false_and]),rfl⟩,Am.auto⟩
 ·refine .gF (.gF (.gF (.pickF (.move (.gF ?_)))))
  refine .gF (.gF (.pickF (.move (.gF (.gF ?_)))))
  refine .gF (.pickF (.move (.gF (.gF (.gF ?_)))))
  refine .pickF (.move (.gF (.gF (.gF (.pickF ?_)))))
  refine .move (.gF (.gF (.gF (.pickF (.move ?_)))))
  refine .gF (.gF (.gF (.pickF (.assign (.z ?_)))))
  refine .ret (?_)
  exact .ret1 (h1:=.tmp (t:=2) rfl) ⟨_,⟨cB9 (by unfold ko;simp only [show decide (512<=seg)=false from g0,Bool.true_and,Bool.false_and]),rfl⟩,Am.auto⟩
theorem Ub {xs ps:aa} (hl:ps.length<=xs.length) (hx:xs.length<=1000000):Spec Tryz.prog 109 #[sv xs,sv ps] [] fun F v M=>v=.bool (decide (xs.drop (xs.length - ps.length)=ps))/\M=F:=by
 refine Spec.intro Tryz.func109 rfl rfl fun B F=>?_
 simp only [Tryz.ntmps109,List.cons_append,List.nil_append,env0,Nat.reduceAdd]
 refine .sr (.assign (.x (.move ?_)))
 refine .lenT _ ?_ st9
 refine .move ?_
 refine .lenT _ ?_ st9
 refine .geq ?_
 refine .move ?_
 refine .cast (d:=10) (u:=.bool true) rfl (cB9 (decide_eq_true (by omega))) ?_
 refine .gT (.move (.gT (.move (.gT ?_))))
 refine .lenT _ ?_ st9
 refine .gT (.move (.gT ?_))
 refine .lenT _ ?_ st9
 refine .gT ?_
 refine .sub ?_
 refine .gT ?_
 refine .subT (p:=((xs.length:Nat):Int) - ((ps.length:Nat):Int)) xs ?_ st9
 refine .cast (d:=17) (u:=sv (xs.drop (xs.length - ps.length))) rfl (congrArg (fun z=>sv (xs.drop z)) (by omega)) ?_
 refine .gT (.move (.gT ?_))
 refine .eqS (xs.drop (xs.length - ps.length)) ps ?_
 refine .pickT (.assign (.z (.ret (?_))))
 exact .ret1 (h1:=.tmp (t:=4) rfl) ⟨_,⟨rfl,rfl⟩,Am.auto⟩
theorem Jl {xs ps:aa} (hl:ps.length<=xs.length) (hx:xs.length<=1000000):Spec Tryz.prog 60 #[sv xs,sv ps] [] fun F v M=>v=.bool (decide (xs.drop (xs.length - ps.length)=ps))/\M=F:=by
 refine Spec.intro Tryz.func60 rfl rfl fun B F=>?_
 simp only [Tryz.ntmps60,List.cons_append,List.nil_append,env0,Nat.reduceAdd]
 refine .sr (.assign (.x (.move (.move ?_))))
 refine .call (hc:=Tryz.call109) (sp:=Ub hl hx) (h:=?_)
 rintro _ _ ⟨rfl,rfl⟩
 refine .assign (.z (.ret (?_)))
 exact .ret1 (h1:=.tmp (t:=4) rfl) ⟨_,⟨rfl,rfl⟩,Am.auto⟩
theorem rp {dir:aa} {b:Nat} (hd:dir.length<=1000) (hb:b<=1125899906842624):Spec Tryz.prog 47 #[sv dir,.int .i64 ((b:Nat):Int)] [] fun F v M=>v=sv (dir++[47]++al b)/\M=F:=by
 refine Spec.intro Tryz.func47 rfl rfl fun B F=>?_
 simp only [Tryz.ntmps47,List.cons_append,List.nil_append,env0,Nat.reduceAdd]
 refine .sr (.assign (.x ?_))
 refine .allocL (us:=bvs (qz b 0)) z149 rfl fun b5=>?_
 refine .z (.seq (.sr (.assign (.z (.block ?_)))))
 refine .cast (d:=1) (u:=.int .i64 ((b / 10 ^ 0:Nat):Int)) rfl (by rw [Nat.pow_zero,Nat.div_one]) ?_
 refine .loopA (σ:=Nat) (fun k=>[(0,sv dir),(1,.int .i64 ((b / 10 ^ k:Nat):Int)),(5,.pointer (some ⟨b5,0,none⟩)),(6,.int .i64 ((19:Int) - ((k:Nat):Int)))]) (fun k=>[row b5 149 (bvs (qz b k))]++F) (fun k=>k<=20) (fun k=>20 - k) 0 (Nat.zero_le _) ?_
 rintro k hk
 refine .seq (.sr (.move ?_))
 refine .geq (.z ?_)
 refine .cond rfl (fun hd2=>?_) (fun hd2=>?_)
 ·have hk20:k < 20:=by have h:(19:Int) - ((k:Nat):Int) ≥ 0:=of_decide_eq_true hd2;omega
  have hdg:=l6 b k
  have hdn:=l7 b k
  have hle:b / 10 ^ k<=b:=Nat.div_le_self _ _
  have hdl:=I9 (b:=b) (k:=k) (by omega)
  have hz1:b / 10 ^ (k+1)=b / 10 ^ k / 10:=by rw [Nat.pow_succ,<-Nat.div_div_eq_div_mul]
  have hdd:digP b k=48+b / 10 ^ k % 10:=rfl
  have hset:=Ja (b:=b) hk20
  generalize hz:b / 10 ^ k=z at *
  have hix:0+((19:Int) - ((k:Nat):Int)).toNat * 1=19 - k:=by omega
  refine .skip (.next (.seq (.block (.sr (.move (.move ?_))))))
  refine .rem ?_
  refine .add ?_
  refine .cvt ?_ un3 un5
  refine .cast (d:=15) (u:=bv (UInt8.ofNat (digP b k))) rfl (cI9 (by rw [hdn,show (48:Int)+((z:Nat):Int) % 10=((digP b k:Nat):Int) by omega];exact IntWalk.u8_in _ (by omega))) ?_
  refine .idxA ?_ ar149
  refine .cast (d:=16) (u:=.pointer (some ⟨b5,19 - k,none⟩)) rfl (congrArg (fun z=>Value.pointer (some ⟨b5,z,none⟩)) hix) ?_
  refine .stL (xs:=bvs (qz b k)) (i:=19 - k) ?_ sc5 (by rw [ag,hdl];omega)
  refine .to (A:=row b5 149 ((bvs (qz b k)).set (19 - k) (bv (UInt8.ofNat (digP b k))))) (A':=row b5 149 (bvs (qz b (k+1)))) (fun h hh=>by rw [<- hset,r6];exact hh) ?_
  refine .y (.move ?_)
  refine .quo ?_
  refine .cast (d:=18) (u:=.int .i64 ((b / 10 ^ (k+1):Nat):Int)) rfl (cI9 (by rw [hz1];omega)) ?_
  refine .assign (.nil (.blockNormal (.next (.region (.move ?_)))))
  refine .sub ?_
  refine .cast (d:=10) (u:=.int .i64 ((19:Int) - ((k+1:Nat):Int))) rfl (cI9 (by omega)) ?_
  refine .assign (.nil ?_)
  exact .back (k+1) (show k+1<=20 by omega) (show 20 - (k+1) < 20 - k by omega)
 ·have hk20:k=20:=by have h:¬ (19:Int) - ((k:Nat):Int) ≥ 0:=of_decide_eq_false hd2;have h2:k<=20:=hk;omega
  subst hk20
  rw [Fi]
  refine .exit (.thenExit (.thenExit (.blockExit (?_))))
  refine .next (.sr (.move ?_))
  refine .catS dir [47] ?_ (by simp only [List.length_cons,List.length_nil];omega)
  refine .slcArr ?_ un149 (by kernel_rfl)
  refine .cvtBS (xs:=al b) ?_ by79 st9 Nl (ce b)
  refine .catS (dir++[47]) (al b) ?_ (by rw [List.length_append,ce];simp only [List.length_cons,List.length_nil];omega)
  refine .assign (.z (.ret (?_)))
  exact .ret1 (h1:=.tmp (t:=4) rfl) ⟨_,⟨rfl,rfl⟩,Am.auto⟩
theorem D0 {b:Nat} (hb:b<=1125899906842624):Spec Tryz.prog 62 #[sv (al b)] [] fun F v M=>v=.tuple #[.int .i64 ((b:Nat):Int),.bool true]/\M=F:=by
 refine Spec.intro Tryz.func62 rfl rfl fun B F=>?_
 simp only [Tryz.ntmps62,List.cons_append,List.nil_append,env0,Nat.reduceAdd]
 have hnl:=ce b
 refine .sr (.assign (.assign (.z (.seq (.sr (.move ?_))))))
 refine .lenT _ ?_ st9
 refine .nei (.z ?_)
 refine .condF rfl (cB9 (by first|exact decide_eq_true (by omega)|exact decide_eq_false (by omega)|simp;done|simp;omega|omega)) ?_
 refine .skip (.next (.seq (.sr (.move ?_))))
 refine .cvtSB (al b) (fun b10 c10 cs10 el10 fr10 htk hc10=>?_) st9 by79
 have hR:Reads (pt b10 (.cells cs10 el10 fr10)) (some ⟨b10,0,none⟩) (bvs (al b)):=by
  have h:=(Reads.pt (g:=b10) (e:=el10) (cs:=cs10) (fr:=fr10)).take (al b).length
  rwa [htk] at h
 refine .lenS ?_ sl79
 refine .move (.z (.block ?_))
 refine .cast (d:=2) (u:=.int .i64 ((b / 10 ^ (20 - 0):Nat):Int)) rfl (by rw [Nat.sub_zero,Nat.div_eq_of_lt (by omega)];rfl) ?_
 refine .loopA (σ:=Nat) (fun k=>[(2,.int .i64 ((b / 10 ^ (20 - k):Nat):Int)),(10,.slice (some ⟨b10,0,none⟩) (al b).length c10),(11,.int .i64 (((al b).length:Nat):Int)),(12,.int .i64 ((k:Nat):Int))]) (fun k=>[pt b10 (.cells cs10 el10 fr10)]++F) (fun k=>k<=20) (fun k=>20 - k) 0 (Nat.zero_le _) ?_
 rintro k hk
 refine .sr ?_
 refine .lss (.z (.seq ?_))
 refine .cond rfl (fun hd2=>?_) (fun hd2=>?_)
 ·have hk20:k < 20:=by have h:((k:Nat):Int) < (((al b).length:Nat):Int):=of_decide_eq_true hd2;omega
  have hcell:(bvs (al b))[k]?=some (.int .u8 ((digP b (19 - k):Nat):Int)):=by
   unfold bvs
   rw [List.getElem?_map,xq hk20]
   show some (Value.int .u8 ((UInt8.ofNat (digP b (19 - k))).toNat:Int))=_
   rw [l7]
  have hdg:=l6 b (19 - k)
  have hle:b / 10 ^ (20 - k)<=b:=Nat.div_le_self _ _
  have hle2:b / 10 ^ (19 - k)<=b:=Nat.div_le_self _ _
  have hst:b / 10 ^ (20 - k)=b / 10 ^ (19 - k) / 10:=by rw [show 20 - k=(19 - k)+1 by omega,Nat.pow_succ,Nat.div_div_eq_div_mul]
  have hdd:digP b (19 - k)=48+b / 10 ^ (19 - k) % 10:=rfl
  generalize hz:b / 10 ^ (19 - k)=z at *
  generalize b / 10 ^ (20 - k)=y at *
  generalize digP b (19 - k)=dg at *
  refine .skip (.next (.seq (.block (.sr ?_))))
  refine .idx1 ?_ so79
  refine .ldR (i:=k) ?_ sc5 hR hcell
  refine .assign (.z (.seq (.sr (.move ?_))))
  refine .lss ?_
  refine .move ?_
  refine .cast (d:=18) (u:=.bool false) rfl (cB9 (by first|exact decide_eq_true (by omega)|exact decide_eq_false (by omega)|simp;done|simp;omega|omega)) ?_
  refine .gT (.move (.gT ?_))
  refine .gtr ?_
  refine .pickF (.move ?_)
  refine .cast (d:=22) (u:=.bool false) rfl (cB9 (by first|exact decide_eq_true (by omega)|exact decide_eq_false (by omega)|simp;done|simp;omega|omega)) ?_
  refine .gT (.move (.gT ?_))
  refine .gtr ?_
  refine .pickF (.z ?_)
  refine .condF rfl (cB9 (by first|exact decide_eq_true (by omega)|exact decide_eq_false (by omega)|simp;done|simp;omega|omega)) ?_
  refine .skip (.next (.region (.move ?_)))
  refine .mul ?_
  refine .move ?_
  refine .subw ?_
  refine .cast (d:=29) (u:=.int .u8 ((dg - 48:Nat):Int)) rfl (cI9 (by rw [show ((dg:Nat):Int) - 48=((dg - 48:Nat):Int) by omega];exact IntWalk.u8_in _ (by omega))) ?_
  refine .cvt ?_ un5 un3
  refine .cast (d:=30) (u:=.int .i64 ((dg - 48:Nat):Int)) rfl (cI9 (zu (by omega))) ?_
  refine .add ?_
  refine .cast (d:=31) (u:=.int .i64 ((b / 10 ^ (20 - (k+1)):Nat):Int)) rfl (cI9 (by rw [show 20 - (k+1)=19 - k by omega,hz];omega)) ?_
  refine .assign (.nil (.blockNormal (.next (.region ?_))))
  refine .add ?_
  refine .move (.nil ?_)
  exact .back (k+1) (show k+1<=20 by omega) (show 20 - (k+1) < 20 - k by omega)
 ·have hk20:k=20:=by have h:¬ ((k:Nat):Int) < (((al b).length:Nat):Int):=of_decide_eq_false hd2;have h2:k<=20:=hk;omega
  subst hk20
  rw [Nat.sub_self,Nat.pow_zero,Nat.div_one]
  refine .exit (.thenExit (.thenExit (.blockExit (?_))))
  refine .next (.sr (.move (.move ?_)))
  refine .leq ?_
  refine .cast (d:=35) (u:=.bool true) rfl (cB9 (decide_eq_true (by omega))) ?_
  refine .assign (.assign (.z (.ret (?_))))
  exact .ret2 (h1:=.tmp (t:=2) rfl) (h2:=.tmp (t:=3) rfl) ⟨_,⟨rfl,rfl⟩,Am.auto⟩
theorem Fq :mt Tryz.prog 86=true:=by kernel_rfl
theorem Rr :ad Tryz.prog 145 2 2=true:=by kernel_rfl
theorem ff :ad Tryz.prog 145 3 3=true:=by kernel_rfl
theorem ic :ad Tryz.prog 145 4 4=true:=by kernel_rfl
theorem t6 :ai Tryz.prog 143=true:=by kernel_rfl
theorem Fs :Tryz.prog.underlying 143=some (.slice 151):=by kernel_rfl
theorem x4 :ad Tryz.prog 151 0 0=true:=by kernel_rfl
theorem Bz :ar Tryz.prog 143 151 6 64=true:=by kernel_rfl
theorem z44 :ba Tryz.prog 44=some (#[.int .i64 0,.int .i64 0,.int .i64 0,.int .i64 0,.slice none 0 0]):=by kernel_rfl
theorem z151 :ba Tryz.prog 151=some (#[.int .i64 0,.int .i64 0,.int .i64 0,.int .i64 0,.slice none 0 0,.int .i64 0]):=by kernel_rfl
structure SRow where
 b:Bt
 s:Value
 k:Nat
def SRow.v (x:SRow):List Value:=x.b.v x.s++[.int .i64 ((x.k:Nat):Int)]
theorem SRow.v_len (x:SRow):x.v.length=6:=rfl
structure SRowOk (os:List (Nat×Obj)) (x:SRow):Prop where
 at':∃ A c,x.s=.slice (some A) x.b.recs.length c/\Reads (frz os) (some A) x.b.rv
 pos:0 < x.b.recs.length
 len:x.b.recs.length<=10000
 rng:(0<=x.b.base/\x.b.base<=1125899906842624)/\1<=x.b.span/\x.b.span<=100
def sizR :List SRow->Nat
 | []=>0
 | x :: l=>x.k+sizR l
theorem B0 (l m:List SRow):sizR (l++m)=sizR l+sizR m:=by
 induction l with
 | nil=>simp [sizR]
 | cons r l ih=>simp only [List.cons_append,sizR,ih];omega
def x6 (base:Int) (l:List SRow):Int:=match l.getLast? with
 | some x=>x.b.base+x.b.span
 | none=>base
def sgO (f:Nat) (path:aa) (base:Int) (rows:List SRow) (u:Value):Obj:=.cells #[.pointer (some ⟨f,0,none⟩),sv path,.int .i64 base,.int .i64 ((sizR rows:Nat):Int),u] 145 (0,0)
theorem Jm {base:Int}:Spec Tryz.prog 99 #[.int .i64 base] [] fun F v M=>v=.bool (decide (0<=base) && decide (base<=1125899906842624))/\M=F:=by
 refine Spec.intro Tryz.func99 rfl rfl fun B F=>?_
 simp only [Tryz.ntmps99,List.cons_append,List.nil_append,env0,Nat.reduceAdd]
 refine .sr (.assign (.x (.move ?_)))
 refine .geq ?_
 refine .move ?_
 refine .split (t:=5) rfl (fun hb=>?_) (fun hb=>?_)
 ·refine .gT (.move (.gT ?_))
  refine .leq ?_
  refine .pickT (.assign (.z (.ret (?_))))
  exact .ret1 (h1:=.tmp (t:=2) rfl) ⟨_,⟨by rw [show decide (0<=base)=true from hb,Bool.true_and],rfl⟩,Am.auto⟩
 ·refine .gF (.gF (.pickF (.assign (.z (.ret (?_))))))
  exact .ret1 (h1:=.tmp (t:=2) rfl) ⟨_,⟨by rw [show decide (0<=base)=false from hb,Bool.false_and],rfl⟩,Am.auto⟩
theorem Jn {s f:Nat} {path:aa} {base:Int} {rows:List SRow} {u:Value}:Spec Tryz.prog 50 #[.pointer (some ⟨s,0,none⟩)] [pt s (sgO f path base rows u),rowR 151 6 u rows.length (rows.flatMap SRow.v)] fun F v M=>v=.int .i64 base/\M=pt s (sgO f path base rows u) :: rowR 151 6 u rows.length (rows.flatMap SRow.v) :: F:=by
 refine Spec.intro Tryz.func50 rfl rfl fun B F=>?_
 simp only [Tryz.ntmps50,List.cons_append,List.nil_append,env0,Nat.reduceAdd]
 refine .sr (.assign (.z (.seq (.sr (.move ?_)))))
 refine .eqNil ?_ Fq
 refine .z ?_
 refine .condF rfl rfl ?_
 refine .skip (.next (.sr (.move (.nilCheck ?_))))
 refine .fa ?_ Rr
 refine .ld ?_ sc3
 refine .assign (.z (.ret (?_)))
 exact .ret1 (h1:=.tmp (t:=2) rfl) ⟨_,⟨rfl,rfl⟩,Am.auto⟩
theorem Rs {s f:Nat} {path:aa} {base:Int} {rows:List SRow} {u:Value}:Spec Tryz.prog 44 #[.pointer (some ⟨s,0,none⟩)] [pt s (sgO f path base rows u),rowR 151 6 u rows.length (rows.flatMap SRow.v)] fun F v M=>v=.int .i64 ((sizR rows:Nat):Int)/\M=pt s (sgO f path base rows u) :: rowR 151 6 u rows.length (rows.flatMap SRow.v) :: F:=by
 refine Spec.intro Tryz.func44 rfl rfl fun B F=>?_
 simp only [Tryz.ntmps44,List.cons_append,List.nil_append,env0,Nat.reduceAdd]
 refine .sr (.assign (.z (.seq (.sr (.move ?_)))))
 refine .eqNil ?_ Fq
 refine .z ?_
 refine .condF rfl rfl ?_
 refine .skip (.next (.sr (.move (.nilCheck ?_))))
 refine .fa ?_ ff
 refine .ld ?_ sc3
 refine .assign (.z (.ret (?_)))
 exact .ret1 (h1:=.tmp (t:=2) rfl) ⟨_,⟨rfl,rfl⟩,Am.auto⟩
theorem B1 {s f:Nat} {path:aa} {base:Int} {rows:List SRow} {u:Value} {os:List (Nat×Obj)} (hok:∀ x∈rows,SRowOk os x) (hl:rows.length<=100000):Spec Tryz.prog 49 #[.pointer (some ⟨s,0,none⟩)] [pt s (sgO f path base rows u),rowR 151 6 u rows.length (rows.flatMap SRow.v)] fun F v M=>v=.int .i64 (x6 base rows)/\M=pt s (sgO f path base rows u) :: rowR 151 6 u rows.length (rows.flatMap SRow.v) :: F:=by
 refine Spec.intro Tryz.func49 rfl rfl fun B F=>?_
 simp only [Tryz.ntmps49,List.cons_append,List.nil_append,env0,Nat.reduceAdd]
 refine .fact (ae (el:=151) (size:=6) (k:=rows.length) (v:=u) (xs:=rows.flatMap SRow.v)) fun ⟨A,c,hu,hR,_,_,_⟩=>?_
 subst hu
 refine .sr (.assign (.z (.seq (.sr (.move ?_)))))
 refine .eqNil ?_ Fq
 refine .move (.gT (.move (.gT (.nilCheck (.gT ?_)))))
 refine .fa ?_ ic
 refine .gT ?_
 refine .ld ?_ t6
 refine .gT ?_
 refine .lenS ?_ Fs
 refine .gT ?_
 refine .eqi ?_
 refine .pickF (.z ?_)
 refine .cond rfl (fun hb=>?_) (fun hb=>?_)
 ·have h0:rows=[]:=List.eq_nil_of_length_eq_zero (by have h:((rows.length:Nat):Int)=0:=of_decide_eq_true hb;omega)
  refine .sr (.move ?_)
  refine .call (hc:=Tryz.call50) (sp:=Jn) (h:=?_)
  rintro _ _ ⟨rfl,rfl⟩
  refine .assign (.z ?_)
  refine .ret (.thenRet (?_))
  exact .ret1 (h1:=.tmp (t:=2) rfl) ⟨_,⟨by rw [h0];rfl,rfl⟩,Am.auto⟩
 ·have hpos:0 < rows.length:=by have h:¬ ((rows.length:Nat):Int)=0:=of_decide_eq_false hb;omega
  obtain ⟨ab,ao,rfl⟩:∃ ab ao,A=some ⟨ab,ao,none⟩:=by
   cases A with
   | none =>
    have h0:rows.flatMap SRow.v=[]:=hR
    have h1:=be SRow.v_len rows
    rw [h0] at h1
    simp at h1
    omega
   | some a =>
    obtain ⟨x,y,z⟩:=a
    have:z=none:=hR.1
    subst this
    exact ⟨x,y,rfl⟩
  obtain ⟨x,hx⟩:∃ x,rows[rows.length - 1]?=some x:=⟨_,List.getElem?_eq_getElem (by omega)⟩
  have hxok:=hok x (List.mem_of_getElem? hx)
  obtain ⟨A1,c1,hxs,_⟩:=hxok.at'
  have hrng:=hxok.rng
  have hnx:x6 base rows=x.b.base+x.b.span:=by unfold x6;rw [List.getLast?_eq_getElem?,hx]
  have hus:((rows.flatMap SRow.v).drop ((rows.length - 1) * 6)).take 5=x.b.v (.slice (some A1) x.b.recs.length c1):=by
   have h1:=congrArg (List.take 5) (i5 SRow.v_len _ _ _ hx)
   rw [List.take_take] at h1
   rw [<- hxs]
   exact h1
  have hfit:(rows.length - 1) * 6+5<=(rows.flatMap SRow.v).length:=by
   have:=oe SRow.v_len (l:=rows) (i:=rows.length - 1) (by omega)
   omega
  refine .skip (.next (.seq ?_))
  refine .dr ([pt s (sgO f path base rows (.slice (some ⟨ab,ao,none⟩) rows.length c)),rowR 151 6 (.slice (some ⟨ab,ao,none⟩) rows.length c) rows.length (rows.flatMap SRow.v)]) [14] 15 mixed .autoJ ?_
  refine .tk 0 rfl .move ?_
  refine .tk 1 rfl .nilCheck ?_
  refine .tk 2 rfl (.fa ic) ?_
  refine .tk 3 rfl (.ld t6) ?_
  refine .tk 4 rfl .move ?_
  refine .tk 5 rfl .nilCheck ?_
  refine .tk 6 rfl (.fa ic) ?_
  refine .tk 7 rfl (.ld t6) ?_
  refine .tk 8 rfl (.lenS Fs) ?_
  refine .tk 9 rfl .sub ?_
  refine .tk 10 rfl (.idx Bz) ?_
  refine .tk 11 rfl ((Qt.fa x4).eq (congrArg (fun z=>Value.pointer (some ⟨ab,z,none⟩)) (show ao+(((rows.length:Nat):Int) - 1).toNat * 6+0=ao+(rows.length - 1) * 6 by omega))) ?_
  refine .tk 12 rfl (Qt.ldAR (i:=(rows.length - 1) * 6) dz hR hus hfit) ?_
  refine .on 13 rfl fun hnp=>?_
  refine .alloc z44 fun b3=>?_
  refine .nil (.wa hnp ?_)
  refine .on 14 rfl fun hnp=>?_
  refine .stV ?_ dz
  refine .nil (.wb hnp ?_)
  refine .fin ?_
  refine .next (.sr ?_)
  refine .fa ?_ tx
  refine .ld ?_ sc3
  refine .fa ?_ qo
  refine .ld ?_ sc3
  refine .add ?_
  refine .assign (.z (.ret (?_)))
  exact .ret1 (h1:=.tmp (t:=2) rfl) ⟨_,⟨by rw [hnx],rfl⟩,Am.auto⟩
theorem Uc :bc Tryz.prog 37 0 [] 95 #[]:=fun w=>by kernel_rfl
theorem B2 {g el size:Nat}:∀ h,pt g (.cells #[] el (0,0)) h->rowR el size (.slice (some ⟨g,0,none⟩) 0 0) 0 [] h:=by
 intro h hh
 unfold pt at hh
 unfold rowR
 exact ⟨by simp,.inr ⟨g,0,#[],rfl,hh,Nat.le_refl _,Nat.zero_le _,by simp,by simp⟩⟩
theorem jk {el size k:Nat} {v:Value} {xs:List Value} (hk:0 < k):∀ h,rowR el size v k xs h->∃ x:Nat×Nat×Array Value,(v=.slice (some ⟨x.1,0,none⟩) k x.2.1/\x.2.2.toList.take xs.length=xs)/\pt x.1 (.cells x.2.2 el (0,0)) h:=by
 intro h hh
 unfold rowR at hh
 obtain ⟨h1,h2⟩:=hh
 rcases h2 with ⟨_,h0⟩ | ⟨g,cap,cur,hv,h3,h4,h5,h6,h7⟩
 ·omega
 ·refine ⟨(g,cap,cur),⟨hv,?_⟩,?_⟩
  ·rw [h1];exact h7
  ·unfold pt;exact h3
theorem Jo (l:List Rc):∀ u∈l.flatMap Rc.v,Value.single u=true:=by
 intro u hu
 obtain ⟨r,_,hu⟩:=List.mem_flatMap.1 hu
 unfold Rc.v at hu
 simp only [List.mem_cons,List.not_mem_nil,or_false] at hu
 rcases hu with rfl | rfl | rfl | rfl | rfl | rfl<;>rfl
theorem zw {R:HP} {A:Addr} {c:Nat} {l:List Rc} (hR:Reads R (some A) (l.flatMap Rc.v)) (hpos:0 < l.length) (hl:l.length<=100000):Spec Tryz.prog 86 #[.slice (some A) l.length c] [R]
  fun F v M=>∃ A2 c2,v=.slice (some A2) l.length c2/\M=rowR 95 6 v l.length (l.flatMap Rc.v) :: R :: F:=by
 refine Spec.intro Tryz.func86 rfl rfl fun B F=>?_
 simp only [Tryz.ntmps86,List.cons_append,List.nil_append,env0,Nat.reduceAdd]
 obtain ⟨ab,ao,asp⟩:=A
 have hsp:asp=none:=hR.1
 subst hsp
 refine .sr (.assign (.z (.seq (.sr (.move ?_)))))
 refine .eqSl ?_ sl37
 refine .z ?_
 refine .condF rfl rfl ?_
 refine .skip (.next (.sr ?_))
 refine .buildS (fun b5=>?_) Uc
 refine .move ?_
 refine .to (A:=pt b5 (.cells #[] 95 (0,0))) (A':=rowR 95 6 (.slice (some ⟨b5,0,none⟩) 0 0) 0 []) B2 ?_
 refine .append (v:=.slice (some ⟨b5,0,none⟩) 0 0) (m:=l.length) (k:=0) (xs:=[]) (news:=l.flatMap Rc.v) (R:=R) so37 (by decide) (by repeat (first | exact .here | apply Rem.there | apply Repl.there | apply Mem.there)) hR (by repeat (first | exact .here | apply Rem.there | apply Repl.there | apply Mem.there)) (be Rc.v_len l) (Jo l) (by unfold maxLen;omega) (by omega) ⟨_,z95,rfl⟩ (fun v' hv'=>?_)
 rw [Nat.zero_add,List.nil_append]
 refine .rowOpen (v:=v') (hx:=fun h=>by have h1:=congrArg List.length h;rw [be Rc.v_len] at h1;simp only [List.length_nil] at h1;omega) fun A4 c4 hv4 hR4 _ _=>?_
 subst hv4
 refine .assign (.z (.ret (?_)))
 exact .ret1 (h1:=.tmp (t:=2) rfl) ⟨_,⟨A4,c4,rfl,rfl⟩,Am.auto⟩
theorem Pa {R:HP} {A:Addr} {c:Nat} {b:Bt} (hR:Reads R (some A) b.rv) (hpos:0 < b.recs.length) (hl:b.recs.length<=100000):Spec Tryz.prog 98 #[.agg (b.v (.slice (some A) b.recs.length c)).toArray] [R]
  fun F v M=>∃ A2 c2,v=.agg (b.v (.slice (some A2) b.recs.length c2)).toArray/\M=rowR 95 6 (.slice (some A2) b.recs.length c2) b.recs.length b.rv :: R :: F:=by
 refine Spec.intro Tryz.func98 rfl rfl fun B F=>?_
 simp only [Tryz.ntmps98,List.cons_append,List.nil_append,env0,Nat.reduceAdd]
 refine .sr ?_
 refine .box fun b1=>?_
 refine .alloc z44 fun b2=>?_
 refine .x ?_
 refine .fa ?_ ir
 refine .ld ?_ sc37
 refine .call (hc:=Tryz.call86) (sp:=zw (l:=b.recs) hR hpos hl) (h:=?_)
 rintro _ _ ⟨A2,c2,rfl,rfl⟩
 refine .fa ?_ ir
 refine .st ?_ sc37
 refine .x ?_
 refine .ldA ?_ dz
 refine .stV ?_ dz
 refine .z (.ret (?_))
 exact .ret1 ⟨_,⟨A2,c2,rfl,rfl⟩,Am.auto⟩
theorem bdRow (a s p q:Int) (A:Option Addr) (m c:Nat) (k:Int):av Tryz.prog 151 [(0,.agg #[.int .i64 a,.int .i64 s,.int .i64 p,.int .i64 q,.slice A m c]),(1,.int .i64 k)] #[.int .i64 a,.int .i64 s,.int .i64 p,.int .i64 q,.slice A m c,.int .i64 k]:=fun w=>by kernel_rfl
theorem Ud (a s p q:Int) (A:Option Addr) (m c:Nat) (k:Int):bc Tryz.prog 143 1 [(0,.agg #[.int .i64 a,.int .i64 s,.int .i64 p,.int .i64 q,.slice A m c,.int .i64 k])] 151 #[.int .i64 a,.int .i64 s,.int .i64 p,.int .i64 q,.slice A m c,.int .i64 k]:=fun w=>by kernel_rfl
theorem Ft {b:Bt} {A:Option Addr} {m c k:Nat}:∀ u∈(SRow.v ⟨b,.slice A m c,k⟩),Value.single u=true:=by
 intro u hu
 unfold SRow.v Bt.v at hu
 simp only [List.cons_append,List.nil_append,List.mem_cons,List.not_mem_nil,or_false] at hu
 rcases hu with rfl | rfl | rfl | rfl | rfl | rfl<;>rfl
theorem Pb {s f:Nat} {path:aa} {base:Int} {rows:List SRow} {u:Value} {b:Bt} {A:Option Addr} {m c k:Nat} (hl:rows.length<=100000) (hk:sizR rows<=1152921504606846976) (hk2:k<=1152921504606846976):Spec Tryz.prog 97 #[.pointer (some ⟨s,0,none⟩),.agg (b.v (.slice A m c)).toArray,.int .i64 (k:Int)] [pt s (sgO f path base rows u),rowR 151 6 u rows.length (rows.flatMap SRow.v)]
  fun F v M=>v=.tuple #[]/\∃ u2,M=pt s (sgO f path base (rows++[(⟨b,.slice A m c,k⟩:SRow)]) u2) :: rowR 151 6 u2 (rows++[(⟨b,.slice A m c,k⟩:SRow)]).length ((rows++[(⟨b,.slice A m c,k⟩:SRow)]).flatMap SRow.v) :: F:=by
 refine Spec.intro Tryz.func97 rfl rfl fun B F=>?_
 simp only [Tryz.ntmps97,List.cons_append,List.nil_append,env0,Nat.reduceAdd]
 have hsz:sizR (rows++[(⟨b,.slice A m c,k⟩:SRow)])=sizR rows+k:=by rw [B0];rfl
 refine .sr ?_
 refine .box fun b4=>?_
 refine .z (.seq ?_)
 refine .dr ([pt s (sgO f path base rows u),pt b4 (.cells (b.v (.slice A m c)).toArray 44 (0,0))]) [12] 13 mixed .autoJ ?_
 refine .tk 0 rfl .move ?_
 refine .tk 1 rfl .move ?_
 refine .tk 2 rfl .nilCheck ?_
 refine .tk 3 rfl (.fa ic) ?_
 refine .tk 4 rfl (.ld t6) ?_
 refine .tk 5 rfl (.ldA dz) ?_
 refine .tk 6 rfl .move ?_
 refine .tk 7 rfl (.build (bdRow _ _ _ _ _ _ _ _)) ?_
 refine .on 8 rfl fun hnp=>?_
 refine .buildS (fun b14=>?_) (Ud _ _ _ _ _ _ _ _)
 refine .nil (.wa hnp ?_)
 refine .on 9 rfl fun hnp=>?_
 refine .append (v:=u) (m:=1) (k:=rows.length) (xs:=rows.flatMap SRow.v) (news:=SRow.v (⟨b,.slice A m c,k⟩:SRow)) Bz (by decide) (by repeat (first | exact .here | apply Rem.there | apply Repl.there | apply Mem.there)) (Reads.pt (cs:=(SRow.v (⟨b,.slice A m c,k⟩:SRow)).toArray)) (by repeat (first | exact .here | apply Rem.there | apply Repl.there | apply Mem.there)) rfl Ft (by unfold maxLen;omega) (by omega) ⟨_,z151,rfl⟩ (fun u2 hu2=>?_)
 rw [show rows.flatMap SRow.v++SRow.v (⟨b,.slice A m c,k⟩:SRow)=(rows++[(⟨b,.slice A m c,k⟩:SRow)]).flatMap SRow.v by rw [List.flatMap_append,List.flatMap_singleton],show rows.length+1=(rows++[(⟨b,.slice A m c,k⟩:SRow)]).length by simp]
 refine .rowOpen (v:=u2) (hx:=fun h=>by have h1:=congrArg List.length h;rw [be SRow.v_len] at h1;simp at h1) fun A4 c4 hv4 hR4 _ _=>?_
 subst hv4
 refine .nil (.wa hnp ?_)
 refine .on 10 rfl fun hnp=>?_
 refine .nilCheck ?_
 refine .nil (.wa hnp ?_)
 refine .tk 11 rfl (.fa ic) ?_
 refine .on 12 rfl fun hnp=>?_
 refine .st ?_ t6
 refine .nil (.wb hnp ?_)
 refine .fin ?_
 refine .next (.region (.move (.nilCheck ?_)))
 refine .fa ?_ ff
 refine .ld ?_ sc3
 refine .move ?_
 refine .add ?_
 refine .cast (d:=23) (u:=.int .i64 ((sizR (rows++[(⟨b,.slice A m c,k⟩:SRow)]):Nat):Int)) rfl (cI9 (by rw [hsz];omega)) ?_
 refine .nilCheck ?_
 refine .fa ?_ ff
 refine .st ?_ sc3
 refine .nil ?_
 exact .ret0 ⟨_,⟨rfl,.slice (some A4) (rows++[(⟨b,.slice A m c,k⟩:SRow)]).length c4,rfl⟩,Am.auto⟩
theorem Jp :ad Tryz.prog 145 0 0=true:=by kernel_rfl
theorem Rt :ad Tryz.prog 145 1 1=true:=by kernel_rfl
theorem Ru (f:Nat) (s:ByteArray) (x:Int):av Tryz.prog 145 [(0,.pointer (some ⟨f,0,none⟩)),(1,.string s),(2,.int .i64 x)] #[.pointer (some ⟨f,0,none⟩),.string s,.int .i64 x,.int .i64 0,.slice none 0 0]:=fun w=>by kernel_rfl
theorem Rv {f:Nat} {base:Int} {path:aa} {H H':HP} (hb:0<=base/\base<=1125899906842624) (hC:Spec Tryz.prog 100 #[.pointer (some ⟨f,0,none⟩),sv path] [H] fun F v M=>v=okV/\M=H' :: F):Spec Tryz.prog 46 #[.pointer (some ⟨f,0,none⟩),sv path,.int .i64 base] [H]
  fun F v M=>∃ s,v=.tuple #[.pointer (some ⟨s,0,none⟩),.int .i64 0]/\M=pt s (sgO f path base [] (.slice none 0 0)) :: rowR 151 6 (.slice none 0 0) ([]:List SRow).length (([]:List SRow).flatMap SRow.v) :: H' :: F:=by
 refine Spec.intro Tryz.func46 rfl rfl fun B F=>?_
 simp only [Tryz.ntmps46,List.cons_append,List.nil_append,env0,Nat.reduceAdd]
 refine .sr (.assign (.assign (.z (.seq (.sr (.move ?_))))))
 refine .call (hc:=Tryz.call99) (sp:=Jm) (h:=?_)
 rintro _ _ ⟨rfl,rfl⟩
 refine .cast (d:=10) (u:=.bool true) rfl (cB9 (by simp [hb.1,hb.2])) ?_
 refine .not (.z ?_)
 refine .condF rfl rfl ?_
 refine .skip (.next (.seq (.sr (.move (.move ?_)))))
 refine .call (hc:=Tryz.call100) (sp:=hC) (h:=?_)
 rintro _ _ ⟨rfl,rfl⟩
 refine .assign (.x (.move ?_))
 refine .nei (.z ?_)
 refine .condF rfl rfl ?_
 refine .skip (.next (.sr (.move (.move (.move ?_)))))
 refine .build ?_ (Ru _ _ _)
 refine .box fun b22=>?_
 refine .assign (.assign (.z (.ret (?_))))
 refine .emp (A:=rowR 151 6 (.slice none 0 0) 0 []) (rowR.nil _) ?_
 exact .ret2 (h1:=.tmp (t:=6) rfl) (h2:=.tmp (t:=7) rfl) ⟨_,⟨_,rfl,rfl⟩,Am.auto⟩
theorem kg {b:Bt} (h:batE b=0):(batB b).length<=6000/\ga b=true:=by
 unfold batE at h
 by_cases h1:lu b=0
 ·rw [if_pos h1] at h
  by_cases h2:6000 < (batB b).length
  ·rw [if_pos h2] at h;cases h
  ·refine ⟨by omega,?_⟩
   unfold lu at h1
   by_cases h3:ga b=true
   ·exact h3
   ·rw [if_neg h3] at h1;cases h1
 ·rw [if_neg h1] at h;exact absurd h h1
theorem iu {b:Bt} (h:batE b=0):(0<=b.base/\b.base<=1125899906842624)/\(1<=b.span/\b.span<=100)/\0 < b.recs.length:=by
 have h1:=(kg h).2
 unfold ga d9 at h1
 simp only [Bool.and_eq_true,Bool.not_eq_true',Bool.or_eq_false_iff,decide_eq_false_iff_not] at h1
 omega
theorem SRowOk.mono {os os2:List (Nat×Obj)} {x:SRow} (h:SRowOk os x) (hs:∀ y∈os,y∈os2):SRowOk os2 x:=by
 obtain ⟨⟨A,c,h1,h2,h3⟩,h4,h5,h6⟩:=h
 refine ⟨⟨A,c,h1,h2,fun hh hf=>h3 hh ?_⟩,h4,h5,h6⟩
 unfold frz at hf ⊢
 exact fun p hp=>hf p (hs p hp)
theorem Jq {s f c:Nat} {base:Int} {rows:List SRow} {u:Value} {os:List (Nat×Obj)} {b:Bt} {A:Addr} {R:HP} {path:aa} {H H':HP} (hok:∀ x∈rows,SRowOk os x) (hR:Reads R (some A) b.rv) (hE:batE b=0) (hl:b.recs.length<=10000) (hx:x6 base rows<=b.base) (hrows:rows.length<=99999) (hsz:sizR rows<=1000000000)
  (hA:∀ (R:HP) (A:Option Addr) (cc:Nat),Reads R A (bvs (batB b))->(batB b).length<=cc->cc<=maxLen->Spec Tryz.prog 96 #[.pointer (some ⟨f,0,none⟩),sv path,.slice A (batB b).length cc] [H,R] fun F v M=>v=okV/\M=H' :: R :: F) :
  Spec Tryz.prog 45 #[.pointer (some ⟨s,0,none⟩),.agg (b.v (.slice (some A) b.recs.length c)).toArray] [pt s (sgO f path base rows u),rowR 151 6 u rows.length (rows.flatMap SRow.v),frz os,H,R] fun F v M=>v=.int .i64 0/\∃ u2 os2 s2,(SRowOk os2 (⟨b,s2,(batB b).length⟩:SRow)/\∀ x∈os,x∈os2)/\M=pt s (sgO f path base (rows++[(⟨b,s2,(batB b).length⟩:SRow)]) u2) :: rowR 151 6 u2 (rows++[(⟨b,s2,(batB b).length⟩:SRow)]).length ((rows++[(⟨b,s2,(batB b).length⟩:SRow)]).flatMap SRow.v) :: frz os2 :: H' :: R :: F:=by
 refine Spec.intro Tryz.func45 rfl rfl fun B F=>?_
 simp only [Tryz.ntmps45,List.cons_append,List.nil_append,env0,Nat.reduceAdd]
 obtain ⟨hfit,_⟩:=kg hE
 obtain ⟨hb,hsp,hpos⟩:=iu hE
 obtain ⟨ab,ao,asp⟩:=A
 have hasp:asp=none:=hR.1
 subst hasp
 refine .sr ?_
 refine .box fun b3=>?_
 refine .assign (.z (.seq (.sr (.move ?_))))
 refine .eqNil ?_ Fq
 refine .move (.gT (.move (.gT (.nilCheck (.gT ?_)))))
 refine .fa ?_ Jp
 refine .gT ?_
 refine .ld ?_ sc29
 refine .gT ?_
 refine .eqNil ?_ uu
 refine .pickF (.z ?_)
 refine .condF rfl rfl ?_
 refine .skip (.next (.sr ?_))
 refine .ldA ?_ dz
 refine .call (hc:=Tryz.call40) (sp:=ol hR hl) (h:=?_)
 rintro _ _ (⟨h0,_,_⟩ | ⟨_,g,q,⟨rfl,hq1,hq2⟩,rfl⟩)
 ·exact absurd hE h0
 refine .move ?_
 refine .extract (.extract ?_)
 refine .assign (.assign (.z (.seq (.sr (.move ?_)))))
 refine .nei (.z ?_)
 refine .condF rfl rfl ?_
 refine .skip (.next (.seq (.seq ?_)))
 refine .dr ([pt b3 (.cells (b.v (.slice (some ⟨ab,ao,none⟩) b.recs.length c)).toArray 44 (0,0))]) [] 5 mixed .autoJ ?_
 refine .tk 0 rfl (.fa tx) ?_
 refine .tk 1 rfl (.ld sc3) ?_
 refine .tk 2 rfl .move ?_
 refine .on 3 rfl fun hnp=>?_
 refine .call (hc:=Tryz.call49) (sp:=B1 (os:=os) hok (by omega)) (h:=?_)
 rintro _ _ ⟨rfl,rfl⟩
 refine .nil (.wa hnp ?_)
 refine .tk 4 rfl .lss ?_
 refine .fin ?_
 refine .next ?_
 refine .condF rfl (cB9 (decide_eq_false (by omega))) ?_
 refine .skip (.next (.seq (.seq ?_)))
 refine .dr ([pt s (sgO f path base rows u)]) [] 11 mixed .autoJ ?_
 refine .tk 0 rfl .move ?_
 refine .tk 1 rfl .nilCheck ?_
 refine .tk 2 rfl (.fa Jp) ?_
 refine .tk 3 rfl (.ld sc29) ?_
 refine .tk 4 rfl .move ?_
 refine .tk 5 rfl .nilCheck ?_
 refine .tk 6 rfl (.fa Rt) ?_
 refine .tk 7 rfl (.ld sc9) ?_
 refine .tk 8 rfl .move ?_
 refine .on 9 rfl fun hnp=>?_
 refine .call (hc:=Tryz.call96) (sp:=hA (buf g 5 q (bvs (batB b))) (some ⟨g,0,none⟩) q Reads.buf hq1 hq2) (h:=?_)
 rintro _ _ ⟨rfl,rfl⟩
 refine .nil (.wa hnp ?_)
 refine .tk 10 rfl .assign ?_
 refine .fin ?_
 refine .next (.sr (.move ?_))
 refine .nei (.z ?_)
 refine .condF rfl rfl ?_
 refine .skip (.next (.sr (.move ?_)))
 refine .ldA ?_ dz
 refine .call (hc:=Tryz.call98) (sp:=Pa (b:=b) hR hpos (by omega)) (h:=?_)
 rintro _ _ ⟨A2,c2,rfl,rfl⟩
 refine .toE (A:=rowR 95 6 (.slice (some A2) b.recs.length c2) b.recs.length b.rv) (jk hpos) ?_
 rintro ⟨g2,q2,cur⟩ ⟨hv2,htk⟩
 injection hv2 with hA2 _ hc2
 injection hA2 with hA2
 simp only at hA2 hc2 htk
 subst hA2
 subst hc2
 refine .frzAdd ?_
 have hnew:SRowOk ((g2,.cells cur 95 (0,0)) :: os) (⟨b,.slice (some ⟨g2,0,none⟩) b.recs.length c2,(batB b).length⟩:SRow):=⟨⟨_,c2,rfl,by
  have:=(Reads.frz (os:=(g2,.cells cur 95 (0,0)) :: os) (b:=g2) (cs:=cur) (List.mem_cons_self ..)).take b.rv.length
  rwa [htk] at this⟩,hpos,hl,hb,hsp⟩
 refine .move ?_
 refine .lenS ?_ sl79
 refine .call (hc:=Tryz.call97) (sp:=Pb (rows:=rows) (u:=u) (base:=base) (path:=path) (f:=f) (s:=s) (b:=b) (A:=some ⟨g2,0,none⟩) (m:=b.recs.length) (c:=c2) (k:=(batB b).length) (by omega) (by omega) (by omega)) (h:=?_)
 rintro _ _ ⟨rfl,u2,rfl⟩
 refine .x (.assign (.z (.ret (?_))))
 exact .ret1 (h1:=.tmp (t:=4) rfl) ⟨_,⟨rfl,u2,_,_,⟨hnew,fun x hx=>List.mem_cons_of_mem _ hx⟩,rfl⟩,Am.auto⟩
theorem Ue :Tryz.prog.underlying 251=some (.int .u64):=by kernel_rfl
theorem sc86 :ai Tryz.prog 86=true:=by kernel_rfl
theorem Pc :c5 Tryz.prog 151 6=true:=by kernel_rfl
theorem Rx :ad Tryz.prog 151 1 5=true:=by kernel_rfl
theorem shr1 (m:Nat):((m:Int)).fdiv (2 ^ (min (1:Int).toNat IntKind.u64.bits))=((m / 2:Nat):Int):=by
 rw [show (2:Int) ^ (min (1:Int).toNat IntKind.u64.bits)=2 from by decide,Int.fdiv_eq_ediv_of_nonneg _ (by decide)]
 omega
theorem vr {gf:Nat} {cap:Array Value} {n:Nat} {p:Nat->Bool} {L0:List HP} (hc:∀ args w,(callFunc gf args).run Tryz.prog w=.ok (.enter gf args) w) (hf:∀ i,i < n->Spec Tryz.prog gf (#[.int .i64 ((i:Nat):Int)]++cap) L0 (fun F v M=>v=.bool (p i)/\M=L0++F)) (hn:n<=1073741824)
  (hm:∀ i j,i<=j->p i=true->p j=true):Spec Tryz.prog 102 #[.int .i64 ((n:Nat):Int),.func (.func gf) #[] cap] L0 fun F v M=>∃ k,v=.int .i64 ((k:Nat):Int)/\(k<=n/\(∀ i,i < k->p i=false)/\∀ i,k<=i->i < n->p i=true)/\M=L0++F:=by
 refine Spec.intro Tryz.func102 rfl rfl fun B F=>?_
 simp only [Tryz.ntmps102,List.cons_append,List.nil_append,env0,Nat.reduceAdd]
 refine .sr (.assign (.x (.move (.assign (.assign (.z (.seq (.block ?_))))))))
 refine .loopA (σ:=Nat×Nat) (fun s=>[(0,.int .i64 ((n:Nat):Int)),(1,.func (.func gf) #[] cap),(5,.int .i64 ((s.1:Nat):Int)),(6,.int .i64 ((s.2:Nat):Int))]) (fun _=>L0++F) (fun s=>s.1<=s.2/\s.2<=n/\(∀ i,i < s.1->p i=false)/\∀ i,s.2<=i->i < n->p i=true) (fun s=>s.2 - s.1) (0,n) ⟨Nat.zero_le _,Nat.le_refl _,fun i h=>absurd h (Nat.not_lt_zero _),fun i h1 h2=>absurd h2 (by have:n<=i:=h1;omega)⟩ ?_
 rintro s hp
 obtain ⟨i,j⟩:=s
 obtain ⟨hij,hjn,hlo,hhi⟩:=hp
 simp only at hij hjn hlo hhi
 refine .seq (.sr (.move (.move ?_)))
 refine .lss (.z ?_)
 refine .cond rfl (fun hd=>?_) (fun hd=>?_)
 ·have hlt:i < j:=by have h:((i:Nat):Int) < ((j:Nat):Int):=of_decide_eq_true hd;omega
  refine .skip (.next (.block (.sr (.move (.move ?_)))))
  refine .add ?_
  refine .cast (d:=14) (u:=.int .i64 (((i+j:Nat)):Int)) rfl (cI9 (by omega)) ?_
  refine .cvt ?_ un3 Ue
  refine .cast (d:=15) (u:=.int .u64 (((i+j:Nat)):Int)) rfl (cI9 (dy (by omega))) ?_
  refine .shr ?_
  refine .cast (d:=16) (u:=.int .u64 ((((i+j) / 2:Nat)):Int)) rfl (cI9 (shr1 _)) ?_
  refine .cvt ?_ Ue un3
  refine .cast (d:=17) (u:=.int .i64 ((((i+j) / 2:Nat)):Int)) rfl (cI9 (ft (by omega))) ?_
  refine .assign (.x (.move (.move ?_)))
  refine .callV (hc:=hc) (sp:=hf ((i+j) / 2) (by omega)) (tk:=Tk.app) (h:=?_)
  rintro _ _ ⟨rfl,rfl⟩
  refine .not (.z ?_)
  refine .cond rfl (fun hq=>?_) (fun hq=>?_)
  ·have hpf:p ((i+j) / 2)=false:=by simpa using hq
   refine .region (.move ?_)
   refine .add ?_
   refine .assign (.nil (.blockNormal ?_))
   exact .back ((i+j) / 2+1,j) ⟨by show (i+j) / 2+1<=j;omega,hjn,fun q hq2=>(by cases hpq:p q;rfl;exact absurd (hm q ((i+j) / 2) (by have:q < (i+j) / 2+1:=hq2;omega) hpq) (by rw [hpf];decide)),hhi⟩ (show j - ((i+j) / 2+1) < j - i by omega)
  ·have hpt:p ((i+j) / 2)=true:=by simpa using hq
   refine .region (.move (.assign (.nil (.blockNormal ?_))))
   exact .back (i,(i+j) / 2) ⟨by show i<=(i+j) / 2;omega,by show (i+j) / 2<=n;omega,hlo,fun q hq1 hq2=>hm _ q hq1 hpt⟩ (show (i+j) / 2 - i < j - i by omega)
 ·have hge:i=j:=by have h:¬ ((i:Nat):Int) < ((j:Nat):Int):=of_decide_eq_false hd;omega
  subst hge
  refine .exit (.thenExit (.thenExit (.blockExit (?_))))
  refine .next (.sr (.move (.assign (.z (.ret (?_))))))
  exact .ret1 (h1:=.tmp (t:=4) rfl) ⟨_,⟨i,rfl,⟨hjn,hlo,hhi⟩,rfl⟩,Am.auto⟩
theorem Uf {cs co s f ab ao c i:Nat} {off base:Int} {path:aa} {rows:List SRow} {os:List (Nat×Obj)} {x:SRow} (hx:rows[i]?=some x) (hok:SRowOk os x) (hR:Reads (rowR 151 6 (.slice (some ⟨ab,ao,none⟩) rows.length c) rows.length (rows.flatMap SRow.v)) (some ⟨ab,ao,none⟩) (rows.flatMap SRow.v)) :
  Spec Tryz.prog 103 (#[.int .i64 ((i:Nat):Int)]++#[.pointer (some ⟨cs,0,none⟩),.pointer (some ⟨co,0,none⟩)]) [pt cs (.cells #[.pointer (some ⟨s,0,none⟩)] 86 (0,0)),pt co (.cells #[.int .i64 off] 3 (0,0)),pt s (sgO f path base rows (.slice (some ⟨ab,ao,none⟩) rows.length c)),rowR 151 6 (.slice (some ⟨ab,ao,none⟩) rows.length c) rows.length (rows.flatMap SRow.v)] fun F v M=>v=.bool (decide (off < x.b.base+x.b.span))/\M=[pt cs (.cells #[.pointer (some ⟨s,0,none⟩)] 86 (0,0)),pt co (.cells #[.int .i64 off] 3 (0,0)),pt s (sgO f path base rows (.slice (some ⟨ab,ao,none⟩) rows.length c)),rowR 151 6 (.slice (some ⟨ab,ao,none⟩) rows.length c) rows.length (rows.flatMap SRow.v)]++F:=by
 refine Spec.intro Tryz.func103 rfl rfl fun B F=>?_
 simp only [Tryz.ntmps103,List.cons_append,List.nil_append,env0,Nat.reduceAdd]
 have hil:i < rows.length:=(List.getElem?_eq_some_iff.1 hx).1
 have hrng:=hok.rng
 have hc0:(rows.flatMap SRow.v)[i * 6+0]?=some (.int .i64 x.b.base):=by
  have h1:=i5 SRow.v_len _ _ _ hx
  have h2:(((rows.flatMap SRow.v).drop (i * 6)).take 6)[0]?=some (.int .i64 x.b.base):=by rw [h1];rfl
  rw [List.getElem?_take,if_pos (by decide),List.getElem?_drop] at h2
  exact h2
 have hc1:(rows.flatMap SRow.v)[i * 6+1]?=some (.int .i64 x.b.span):=by
  have h1:=i5 SRow.v_len _ _ _ hx
  have h2:(((rows.flatMap SRow.v).drop (i * 6)).take 6)[1]?=some (.int .i64 x.b.span):=by rw [h1];rfl
  rw [List.getElem?_take,if_pos (by decide),List.getElem?_drop] at h2
  exact h2
 refine .sr (.assign (.z (.seq ?_)))
 refine .dr ([pt cs (.cells #[.pointer (some ⟨s,0,none⟩)] 86 (0,0)),pt co (.cells #[.int .i64 off] 3 (0,0)),pt s (sgO f path base rows (.slice (some ⟨ab,ao,none⟩) rows.length c)),rowR 151 6 (.slice (some ⟨ab,ao,none⟩) rows.length c) rows.length (rows.flatMap SRow.v)]) [] 22 mixed .autoJ ?_
 refine .tk 0 rfl (.ld sc86) ?_
 refine .tk 1 rfl .nilCheck ?_
 refine .tk 2 rfl (.fa ic) ?_
 refine .tk 3 rfl (.ld t6) ?_
 refine .tk 4 rfl .move ?_
 refine .tk 5 rfl (.idx Bz) ?_
 refine .tk 6 rfl (.fa x4) ?_
 refine .tk 7 rfl ((Qt.fa tx).eq (congrArg (fun z=>Value.pointer (some ⟨ab,z,none⟩)) (show ao+i * 6+0+0=ao+(i * 6+0) by omega))) ?_
 refine .tk 8 rfl (Qt.ldR (i:=i * 6+0) sc3 hR hc0) ?_
 refine .tk 9 rfl (.ld sc86) ?_
 refine .tk 10 rfl .nilCheck ?_
 refine .tk 11 rfl (.fa ic) ?_
 refine .tk 12 rfl (.ld t6) ?_
 refine .tk 13 rfl .move ?_
 refine .tk 14 rfl (.idx Bz) ?_
 refine .tk 15 rfl (.fa x4) ?_
 refine .tk 16 rfl ((Qt.fa qo).eq (congrArg (fun z=>Value.pointer (some ⟨ab,z,none⟩)) (show ao+i * 6+0+1=ao+(i * 6+1) by omega))) ?_
 refine .tk 17 rfl (Qt.ldR (i:=i * 6+1) sc3 hR hc1) ?_
 refine .tk 18 rfl .add ?_
 refine .tk 19 rfl (.ld sc3) ?_
 refine .tk 20 rfl .gtr ?_
 refine .tk 21 rfl .assign ?_
 refine .fin ?_
 refine .next (.ret (?_))
 exact .ret1 (h1:=.tmp (t:=4) rfl) ⟨_,⟨rfl,rfl⟩,Am.auto⟩
def hitR (off:Int) (rows:List SRow) (i:Nat):Bool:=match rows[i]? with
 | some x=>decide (off < x.b.base+x.b.span)
 | none=>true
theorem B3 {off:Int} {rows:List SRow} {i:Nat} {x:SRow} (h:rows[i]?=some x):hitR off rows i=decide (off < x.b.base+x.b.span):=by unfold hitR;rw [h]
def SegOrd (rows:List SRow):Prop:=∀ (i j:Nat) (x y:SRow),i<=j->rows[i]?=some x->rows[j]?=some y->x.b.base+x.b.span<=y.b.base+y.b.span
theorem zx {off:Int} {rows:List SRow} (h:SegOrd rows):∀ i j,i<=j->hitR off rows i=true->hitR off rows j=true:=by
 intro i j hij hi
 unfold hitR at *
 cases hj:rows[j]? with
 | none=>rfl
 | some y =>
  have hjl:=(List.getElem?_eq_some_iff.1 hj).1
  have hx:=List.getElem?_eq_getElem (show i < rows.length by omega)
  rw [hx] at hi
  have:=h i j _ _ hij hx hj
  simp only [decide_eq_true_eq] at hi ⊢
  omega
theorem Fu {ll cs co s f ab ao c k:Nat} {off base:Int} {path:aa} {rows:List SRow} {os:List (Nat×Obj)} {C:Nat->HP} {Cx:HP} (hok:∀ x∈rows,SRowOk os x) (hord:SegOrd rows) (hl:rows.length<=100000) (hpos:0 < rows.length)
  (hk:k<=rows.length) (hk1:∀ i,i < k->hitR off rows i=false) (hk2:∀ i,k<=i->i < rows.length->hitR off rows i=true)
  (hY:∀ (i:Nat) (x:SRow) (A2:Addr) (c2:Nat),rows[i]?=some x->k<=i->RSpec Tryz.prog ll [.agg (x.b.v (.slice (some A2) x.b.recs.length c2)).toArray,.int .i64 ((x.k:Nat):Int)] [rowR 95 6 (.slice (some A2) x.b.recs.length c2) x.b.recs.length x.b.rv,C i] fun F b M=>(b=true/\M=C (i+1) :: F) ∨ (b=false/\M=Cx :: F)) :
  Spec Tryz.prog 101 (#[.func (.yield ll) #[] #[]]++#[.pointer (some ⟨cs,0,none⟩),.pointer (some ⟨co,0,none⟩)]) [C k,pt cs (.cells #[.pointer (some ⟨s,0,none⟩)] 86 (0,0)),pt co (.cells #[.int .i64 off] 3 (0,0)),pt s (sgO f path base rows (.slice (some ⟨ab,ao,none⟩) rows.length c)),rowR 151 6 (.slice (some ⟨ab,ao,none⟩) rows.length c) rows.length (rows.flatMap SRow.v),frz os] fun F v M=>v=.tuple #[]/\(M=[C rows.length,pt cs (.cells #[.pointer (some ⟨s,0,none⟩)] 86 (0,0)),pt co (.cells #[.int .i64 off] 3 (0,0)),pt s (sgO f path base rows (.slice (some ⟨ab,ao,none⟩) rows.length c)),rowR 151 6 (.slice (some ⟨ab,ao,none⟩) rows.length c) rows.length (rows.flatMap SRow.v),frz os]++F ∨ M=[Cx,pt cs (.cells #[.pointer (some ⟨s,0,none⟩)] 86 (0,0)),pt co (.cells #[.int .i64 off] 3 (0,0)),pt s (sgO f path base rows (.slice (some ⟨ab,ao,none⟩) rows.length c)),rowR 151 6 (.slice (some ⟨ab,ao,none⟩) rows.length c) rows.length (rows.flatMap SRow.v),frz os]++F):=by
 refine Spec.intro Tryz.func101 rfl rfl fun B F=>?_
 simp only [Tryz.ntmps101,List.cons_append,List.nil_append,env0,Nat.reduceAdd]
 refine .fact (ae (el:=151) (size:=6) (k:=rows.length) (v:=(.slice (some ⟨ab,ao,none⟩) rows.length c)) (xs:=rows.flatMap SRow.v)) fun ⟨A0,c0,hv0,hR,hnc,_,_⟩=>?_
 injection hv0 with hA0 _ hc0
 subst hA0
 subst hc0
 refine .seq (.sr ?_)
 refine .ld ?_ sc86
 refine .eqNil ?_ Fq
 refine .z ?_
 refine .condF rfl rfl ?_
 refine .skip (.next (.sr ?_))
 refine .ld ?_ sc86
 refine .nilCheck ?_
 refine .fa ?_ ic
 refine .ld ?_ t6
 refine .lenS ?_ Fs
 refine .makeFuncB ?_
 refine .call (hc:=Tryz.call102) (sp:=vr (gf:=103) (cap:=#[.pointer (some ⟨cs,0,none⟩),.pointer (some ⟨co,0,none⟩)]) (n:=rows.length) (p:=hitR off rows) (L0:=[pt cs (.cells #[.pointer (some ⟨s,0,none⟩)] 86 (0,0)),pt co (.cells #[.int .i64 off] 3 (0,0)),pt s (sgO f path base rows (.slice (some ⟨ab,ao,none⟩) rows.length c)),rowR 151 6 (.slice (some ⟨ab,ao,none⟩) rows.length c) rows.length (rows.flatMap SRow.v)]) Tryz.call103 (fun i hi=>by
  have hx:=List.getElem?_eq_getElem hi
  rw [B3 hx]
  exact Uf hx (hok _ (List.getElem_mem hi)) hR) (by omega) (zx hord)) (h:=?_)
 rintro _ _ ⟨k',rfl,⟨hk'n,hk'1,hk'2⟩,rfl⟩
 obtain rfl:k'=k:=by
  rcases Nat.lt_trichotomy k' k with h | h | h
  ·have h1:=hk1 _ h
   rw [hk'2 _ (Nat.le_refl _) (by omega)] at h1
   cases h1
  ·exact h
  ·have h1:=hk'1 _ h
   rw [hk2 _ (Nat.le_refl _) (by omega)] at h1
   cases h1
 simp only [List.cons_append,List.nil_append]
 refine .assign (.x ?_)
 refine .ld ?_ sc86
 refine .nilCheck ?_
 refine .fa ?_ ic
 refine .ld ?_ t6
 refine .move ?_
 refine .slcL ?_ Bz
 have hslc:(if c=((k':Nat):Int).toNat then (some ⟨ab,ao,none⟩:Option Addr) else some ⟨ab,ao+((k':Nat):Int).toNat * 6,none⟩)=some ⟨ab,ao+(if c=k' then 0 else k' * 6),none⟩:=by
  show (if c=k' then (some ⟨ab,ao,none⟩:Option Addr) else some ⟨ab,ao+k' * 6,none⟩)=_
  split<;>rfl
 refine .cast (d:=21) (u:=.slice (some ⟨ab,ao+(if c=k' then 0 else k' * 6),none⟩) (rows.length - k') (c - k')) rfl (congrArg (fun z=>Value.slice z (rows.length - k') (c - k')) hslc) ?_
 refine .lenS ?_ Fs
 refine .move (.z (.block ?_))
 refine .loopA (σ:=Nat) (fun j=>[(0,.func (.yield ll) #[] #[]),(1,.pointer (some ⟨cs,0,none⟩)),(2,.pointer (some ⟨co,0,none⟩)),(21,.slice (some ⟨ab,ao+(if c=k' then 0 else k' * 6),none⟩) (rows.length - k') (c - k')),(22,.int .i64 ((rows.length - k':Nat):Int)),(23,.int .i64 ((j:Nat):Int))]) (fun j=>[C (k'+j),pt cs (.cells #[.pointer (some ⟨s,0,none⟩)] 86 (0,0)),pt co (.cells #[.int .i64 off] 3 (0,0)),pt s (sgO f path base rows (.slice (some ⟨ab,ao,none⟩) rows.length c)),rowR 151 6 (.slice (some ⟨ab,ao,none⟩) rows.length c) rows.length (rows.flatMap SRow.v),frz os]++F) (fun j=>j<=rows.length - k') (fun j=>rows.length - k' - j) 0 (Nat.zero_le _) ?_
 rintro j hj
 refine .sr ?_
 refine .lss (.z (.seq ?_))
 refine .cond rfl (fun hd=>?_) (fun hd=>?_)
 ·have hlt:k'+j < rows.length:=by have h:((j:Nat):Int) < ((rows.length - k':Nat):Int):=of_decide_eq_true hd;omega
  obtain ⟨x,hx⟩:∃ x,rows[k'+j]?=some x:=⟨_,List.getElem?_eq_getElem hlt⟩
  have hxok:=hok x (List.mem_of_getElem? hx)
  obtain ⟨A1,c1,hxs,hRx⟩:=hxok.at'
  have hxl:=hxok.len
  have hd0:(if c=k' then 0 else k' * 6)=k' * 6:=if_neg (by omega)
  have hus:=i5 SRow.v_len _ _ _ hx
  rw [show x.v=SRow.v ⟨x.b,.slice (some A1) x.b.recs.length c1,x.k⟩ by rw [<- hxs]] at hus
  refine .skip (.next (.seq (.block (.sr ?_))))
  refine .idx ?_ Bz
  refine .cast (d:=25) (u:=.pointer (some ⟨ab,ao+(k'+j) * 6,none⟩)) rfl (congrArg (fun z=>Value.pointer (some ⟨ab,z,none⟩)) (by rw [hd0];show ao+k' * 6+j * 6=_;rw [Nat.add_mul];omega)) ?_
  refine .ldAR (i:=(k'+j) * 6) ?_ Pc hR hus (oe SRow.v_len hlt)
  refine .alloc z151 fun b6=>?_
  refine .stV ?_ Pc
  refine .z (.seq ?_)
  refine .drY (k:=6) [pt b6 (.cells (SRow.v ⟨x.b,.slice (some A1) x.b.recs.length c1,x.k⟩).toArray 151 (0,0))] [] mixed .autoJ .auto ?_
  refine .tk 0 rfl .move ?_
  refine .tk 1 rfl (.fa x4) ?_
  refine .tk 2 rfl (Qt.ldP (us:=(x.b.v (.slice (some A1) x.b.recs.length c1)).toArray) dz rfl rfl) ?_
  refine .tk 4 rfl (.fa Rx) ?_
  refine .tk 5 rfl (.ld sc3) ?_
  refine .on 3 rfl fun hnp=>?_
  refine .call (hc:=Tryz.call98) (sp:=Pa (R:=frz os) hRx hxok.pos (by omega)) (h:=?_)
  rintro _ _ ⟨A2,c2,rfl,rfl⟩
  refine .nil (.wa hnp ?_)
  refine .fin ?_
  refine .yield (k:=6) rfl rfl (hY (k'+j) x A2 c2 hx (by omega)) .auto fun b M hM=>?_
  rcases hM with ⟨rfl,rfl⟩ | ⟨rfl,rfl⟩
  ·refine .not (.z ?_)
   refine .condF rfl rfl ?_
   refine .skip (.blockNormal (.next (.region ?_)))
   refine .add ?_
   refine .move (.nil ?_)
   exact .back (j+1) (by omega) (by omega)
  ·refine .not (.z ?_)
   refine .condT rfl rfl ?_
   refine .ret (.blockRet (.thenRet (.thenRet (.blockRet (?_)))))
   exact .ret0 ⟨_,⟨rfl,.inr rfl⟩,Am.auto⟩
 ·have hge:k'+j=rows.length:=by have h:¬ ((j:Nat):Int) < ((rows.length - k':Nat):Int):=of_decide_eq_false hd;omega
  refine .exit (.thenExit (.thenExit (.blockExit (?_))))
  rw [hge]
  exact .ret0 ⟨_,⟨rfl,.inl rfl⟩,Am.auto⟩
theorem z40 :ba Tryz.prog 40=some (#[.slice none 0 0]):=by kernel_rfl
theorem sc40 :ai Tryz.prog 40=true:=by kernel_rfl
theorem so40 :ar Tryz.prog 40 44 5 56=true:=by kernel_rfl
theorem segBatches0 {ll cs co s f:Nat} {off base:Int} {path:aa} {os:List (Nat×Obj)} {C:HP}:Spec Tryz.prog 101 (#[.func (.yield ll) #[] #[]]++#[.pointer (some ⟨cs,0,none⟩),.pointer (some ⟨co,0,none⟩)]) [C,pt cs (.cells #[.pointer (some ⟨s,0,none⟩)] 86 (0,0)),pt co (.cells #[.int .i64 off] 3 (0,0)),pt s (sgO f path base ([]:List SRow) (.slice none 0 0)),rowR 151 6 (.slice none 0 0) ([]:List SRow).length (([]:List SRow).flatMap SRow.v),frz os] fun F v M=>v=.tuple #[]/\M=[C,pt cs (.cells #[.pointer (some ⟨s,0,none⟩)] 86 (0,0)),pt co (.cells #[.int .i64 off] 3 (0,0)),pt s (sgO f path base ([]:List SRow) (.slice none 0 0)),rowR 151 6 (.slice none 0 0) ([]:List SRow).length (([]:List SRow).flatMap SRow.v),frz os]++F:=by
 refine Spec.intro Tryz.func101 rfl rfl fun B F=>?_
 simp only [Tryz.ntmps101,List.cons_append,List.nil_append,env0,Nat.reduceAdd]
 refine .seq (.sr ?_)
 refine .ld ?_ sc86
 refine .eqNil ?_ Fq
 refine .z ?_
 refine .condF rfl rfl ?_
 refine .skip (.next (.sr ?_))
 refine .ld ?_ sc86
 refine .nilCheck ?_
 refine .fa ?_ ic
 refine .ld ?_ t6
 refine .lenS ?_ Fs
 refine .makeFuncB ?_
 refine .call (hc:=Tryz.call102) (sp:=vr (gf:=103) (cap:=#[.pointer (some ⟨cs,0,none⟩),.pointer (some ⟨co,0,none⟩)]) (n:=0) (p:=fun _=>false) (L0:=[]) Tryz.call103 (fun i hi=>absurd hi (Nat.not_lt_zero i)) (by omega) (fun i j _ h=>h)) (h:=?_)
 rintro _ _ ⟨k',rfl,⟨hk'n,_,_⟩,rfl⟩
 obtain rfl:k'=0:=by omega
 simp only [List.cons_append,List.nil_append]
 refine .assign (.x ?_)
 refine .ld ?_ sc86
 refine .nilCheck ?_
 refine .fa ?_ ic
 refine .ld ?_ t6
 refine .move ?_
 refine .slcN ?_ Bz
 refine .lenS ?_ Fs
 refine .move (.z (.block ?_))
 refine .loopA (σ:=Unit) (fun j=>[(0,.func (.yield ll) #[] #[]),(1,.pointer (some ⟨cs,0,none⟩)),(2,.pointer (some ⟨co,0,none⟩)),(21,.slice none 0 0),(22,.int .i64 0),(23,.int .i64 0)]) (fun j=>[C,pt cs (.cells #[.pointer (some ⟨s,0,none⟩)] 86 (0,0)),pt co (.cells #[.int .i64 off] 3 (0,0)),pt s (sgO f path base ([]:List SRow) (.slice none 0 0)),rowR 151 6 (.slice none 0 0) ([]:List SRow).length (([]:List SRow).flatMap SRow.v),frz os]++F) (fun _=>True) (fun _=>0) () trivial ?_
 rintro j hj
 refine .sr ?_
 refine .lss (.z (.seq ?_))
 refine .condF rfl (cB9 (rfl)) ?_
 refine .exit (.thenExit (.thenExit (.blockExit (?_))))
 exact .ret0 ⟨_,⟨rfl,rfl⟩,Am.auto⟩
theorem B4 {ll cs co s f k:Nat} {off base:Int} {path:aa} {rows:List SRow} {u:Value} {os:List (Nat×Obj)} {C:Nat->HP} {Cx:HP} (hok:∀ x∈rows,SRowOk os x) (hord:SegOrd rows) (hl:rows.length<=100000) (hu:rows=[]->u=.slice none 0 0)
  (hk:k<=rows.length) (hk1:∀ i,i < k->hitR off rows i=false) (hk2:∀ i,k<=i->i < rows.length->hitR off rows i=true)
  (hY:∀ (i:Nat) (x:SRow) (A2:Addr) (c2:Nat),rows[i]?=some x->k<=i->RSpec Tryz.prog ll [.agg (x.b.v (.slice (some A2) x.b.recs.length c2)).toArray,.int .i64 ((x.k:Nat):Int)] [rowR 95 6 (.slice (some A2) x.b.recs.length c2) x.b.recs.length x.b.rv,C i] fun F b M=>(b=true/\M=C (i+1) :: F) ∨ (b=false/\M=Cx :: F)) :
  Spec Tryz.prog 101 (#[.func (.yield ll) #[] #[]]++#[.pointer (some ⟨cs,0,none⟩),.pointer (some ⟨co,0,none⟩)]) [C k,pt cs (.cells #[.pointer (some ⟨s,0,none⟩)] 86 (0,0)),pt co (.cells #[.int .i64 off] 3 (0,0)),pt s (sgO f path base rows u),rowR 151 6 u rows.length (rows.flatMap SRow.v),frz os] fun F v M=>v=.tuple #[]/\(M=[C rows.length,pt cs (.cells #[.pointer (some ⟨s,0,none⟩)] 86 (0,0)),pt co (.cells #[.int .i64 off] 3 (0,0)),pt s (sgO f path base rows u),rowR 151 6 u rows.length (rows.flatMap SRow.v),frz os]++F ∨ M=[Cx,pt cs (.cells #[.pointer (some ⟨s,0,none⟩)] 86 (0,0)),pt co (.cells #[.int .i64 off] 3 (0,0)),pt s (sgO f path base rows u),rowR 151 6 u rows.length (rows.flatMap SRow.v),frz os]++F):=by
 by_cases h0:rows=[]
 ·obtain rfl:=hu h0
  subst h0
  obtain rfl:k=0:=by simpa using hk
  exact segBatches0.post (fun F v M ⟨h1,h2⟩=>⟨M,⟨h1,.inl h2⟩,.refl⟩)
 ·have hpos:0 < rows.length:=List.length_pos_iff.2 h0
  refine Spec.ofFact (ae (el:=151) (size:=6) (k:=rows.length) (v:=u) (xs:=rows.flatMap SRow.v)) fun ⟨A,c,hu2,hR,_,_,_⟩=>?_
  obtain ⟨ab,ao,rfl⟩:∃ ab ao,A=some ⟨ab,ao,none⟩:=by
   cases A with
   | none =>
    have h0:rows.flatMap SRow.v=[]:=hR
    have h1:=be SRow.v_len rows
    rw [h0] at h1
    simp at h1
    omega
   | some a =>
    obtain ⟨x,y,z⟩:=a
    have:z=none:=hR.1
    subst this
    exact ⟨x,y,rfl⟩
  subst hu2
  exact Fu hok hord hl hpos hk hk1 hk2 hY
structure BRow where
 b:Bt
 s:Value
def BRow.v (x:BRow):List Value:=x.b.v x.s
theorem BRow.v_len (x:BRow):x.v.length=5:=rfl
def BRowOk (os:List (Nat×Obj)) (x:BRow):Prop:=0 < x.b.recs.length/\x.b.recs.length<=10000/\∃ A c,x.s=.slice (some A) x.b.recs.length c/\Reads (frz os) (some A) x.b.rv
theorem BRowOk.mono {os os2:List (Nat×Obj)} {x:BRow} (h:BRowOk os x) (hs:∀ y∈os,y∈os2):BRowOk os2 x:=by
 obtain ⟨h1,h2,A,c,h3,h4,h5⟩:=h
 refine ⟨h1,h2,A,c,h3,h4,fun hh hf=>h5 hh ?_⟩
 unfold frz at hf ⊢
 exact fun p hp=>hf p (hs p hp)
theorem t7 {b:Bt} {A:Option Addr} {m c:Nat}:∀ u∈b.v (.slice A m c),Value.single u=true:=by
 intro u hu
 unfold Bt.v at hu
 simp only [List.mem_cons,List.not_mem_nil,or_false] at hu
 rcases hu with rfl | rfl | rfl | rfl | rfl<;>rfl
theorem Pd (a s p q:Int) (A:Option Addr) (m c:Nat):bc Tryz.prog 40 1 [(0,.agg #[.int .i64 a,.int .i64 s,.int .i64 p,.int .i64 q,.slice A m c])] 44 #[.int .i64 a,.int .i64 s,.int .i64 p,.int .i64 q,.slice A m c]:=fun w=>by kernel_rfl
theorem B5 {s:Nat} {off:Int}:Spec Tryz.prog 51 #[.pointer (some ⟨s,0,none⟩),.int .i64 off] [] fun F v M=>∃ cs co,v=.func (.func 101) #[] #[.pointer (some ⟨cs,0,none⟩),.pointer (some ⟨co,0,none⟩)]/\M=pt cs (.cells #[.pointer (some ⟨s,0,none⟩)] 86 (0,0)) :: pt co (.cells #[.int .i64 off] 3 (0,0)) :: F:=by
 refine Spec.intro Tryz.func51 rfl rfl fun B F=>?_
 simp only [Tryz.ntmps51,List.cons_append,List.nil_append,env0,Nat.reduceAdd]
 refine .sr ?_
 refine .box fun b2=>?_
 refine .box fun b3=>?_
 refine .assign (.x ?_)
 refine .makeFuncB ?_
 refine .assign (.z (.ret (?_)))
 exact .ret1 (h1:=.tmp (t:=4) rfl) ⟨_,⟨_,_,rfl,rfl⟩,Am.auto⟩
structure SegI (os:List (Nat×Obj)) (bs:List Bt) (rows:List SRow) (u:Value):Prop where
 b:rows.map SRow.b=bs
 ok:∀ x∈rows,SRowOk os x
 k:∀ x∈rows,x.k=(batB x.b).length/\x.k<=6000
 ord:SegOrd rows
 nil:rows=[]->u=.slice none 0 0
abbrev X3 :=List SRow×Value×List (Nat×Obj)
abbrev Nm (s f:Nat) (path:aa) (base:Int) (x:X3):List HP:=[pt s (sgO f path base x.1 x.2.1),rowR 151 6 x.2.1 x.1.length (x.1.flatMap SRow.v),frz x.2.2]
def SGP (s f:Nat) (path:aa) (base:Int) (bs:List Bt):HP:=exH (fun x:X3=>SegI x.2.2 bs x.1 x.2.1) (Nm s f path base)
theorem SGP.opens (s f:Nat) (path:aa) (base:Int) (bs:List Bt):Opens (SGP s f path base bs) (fun x:X3=>SegI x.2.2 bs x.1 x.2.1) (Nm s f path base):=exH.opens
abbrev SG (s f:Nat) (base:Int) (bs:List Bt):HP:=SGP s f [47,115] base bs
def kz (base:Int) (bs:List Bt):Int:=match bs.getLast? with
 | some b=>b.base+b.span
 | none=>base
theorem SegI.next {os:List (Nat×Obj)} {bs:List Bt} {rows:List SRow} {u:Value} (h:SegI os bs rows u) (base:Int):x6 base rows=kz base bs:=by
 rw [<- h.b]
 unfold x6 kz
 rw [List.getLast?_map]
 cases rows.getLast?<;>rfl
theorem SegI.siz {os:List (Nat×Obj)} {bs:List Bt} {rows:List SRow} {u:Value} (h:SegI os bs rows u):sizR rows=(bs.flatMap batB).length:=by
 rw [<- h.b]
 have hk:=h.k
 clear h
 induction rows with
 | nil=>rfl
 | cons x l ih =>
  rw [List.map_cons,List.flatMap_cons,List.length_append,<-(hk x (List.mem_cons_self ..)).1,<-ih (fun y hy=>hk y (List.mem_cons_of_mem _ hy))]
  rfl
theorem SegI.len {os:List (Nat×Obj)} {bs:List Bt} {rows:List SRow} {u:Value} (h:SegI os bs rows u):rows.length=bs.length:=by rw [<- h.b,List.length_map]
theorem Fv {base:Int} {rows:List SRow} {j:Nat} {y:SRow} (hy:rows[j]?=some y) (hj:j+1=rows.length):x6 base rows=y.b.base+y.b.span:=by
 unfold x6
 rw [List.getLast?_eq_getElem?,show rows.length - 1=j by omega,hy]
theorem SegI.add {os os2:List (Nat×Obj)} {bs:List Bt} {rows:List SRow} {u u2:Value} {b:Bt} {s2:Value} {base:Int} {k:Nat} (hkb:k=(batB b).length) (h:SegI os bs rows u) (hE:batE b=0) (hx:x6 base rows<=b.base)
  (hn:SRowOk os2 ⟨b,s2,k⟩) (hs:∀ x∈os,x∈os2):SegI os2 (bs++[b]) (rows++[⟨b,s2,k⟩]) u2:=by
 refine ⟨by rw [List.map_append,h.b];rfl,fun x hxm=>?_,fun x hxm=>?_,fun i j x y hij hxi hyj=>?_,fun h0=>by simp at h0⟩
 ·rcases List.mem_append.1 hxm with hxm | hxm
  ·exact (h.ok x hxm).mono hs
  ·rw [List.mem_singleton.1 hxm];exact hn
 ·rcases List.mem_append.1 hxm with hxm | hxm
  ·exact h.k x hxm
  ·rw [List.mem_singleton.1 hxm];show k=(batB b).length/\k<=6000;exact ⟨hkb,by rw [hkb];exact (kg hE).1⟩
 ·by_cases hj:j < rows.length
  ·rw [List.getElem?_append_left hj] at hyj
   rw [List.getElem?_append_left (by omega)] at hxi
   exact h.ord i j x y hij hxi hyj
  ·have hjl:j=rows.length:=by
    have:=(List.getElem?_eq_some_iff.1 hyj).1
    rw [List.length_append,List.length_singleton] at this
    omega
   subst hjl
   have hy:y=⟨b,s2,k⟩:=by simpa using hyj.symm
   by_cases hi:i < rows.length
   ·rw [List.getElem?_append_left hi] at hxi
    have hz:rows[rows.length - 1]?=some rows[rows.length - 1]:=List.getElem?_eq_getElem _
    have h1:=h.ord i (rows.length - 1) _ _ (by omega) hxi hz
    rw [Fv hz (by omega)] at hx
    have h2:=(iu hE).2.1
    rw [hy]
    show _<=b.base+b.span
    omega
   ·have hii:i=rows.length:=by omega
    subst hii
    have hx2:x=y:=by rw [hyj] at hxi;injection hxi with hxi;exact hxi.symm
    rw [hx2];omega
theorem Jr {f:Nat} {base:Int} {path:aa} {H H':HP} (hb:0<=base/\base<=1125899906842624) (hC:Spec Tryz.prog 100 #[.pointer (some ⟨f,0,none⟩),sv path] [H] fun F v M=>v=okV/\M=H' :: F):Spec Tryz.prog 46 #[.pointer (some ⟨f,0,none⟩),sv path,.int .i64 base] [H]
  fun F v M=>∃ s,v=.tuple #[.pointer (some ⟨s,0,none⟩),.int .i64 0]/\M=SGP s f path base [] :: H' :: F :=
 Spec.post' (Rv hb hC) fun F v M B w ⟨s,h1,h2⟩ hs=>by
  subst h2
  have h3:Sat B w (frz [] :: pt s (sgO f path base [] (.slice none 0 0)) :: rowR 151 6 (.slice none 0 0) ([]:List SRow).length (([]:List SRow).flatMap SRow.v) :: H' :: F):=hs.pure sb
  exact ⟨_,⟨s,h1,rfl⟩,Sat.shuts (SGP.opens s f path base []) (x:=([],.slice none 0 0,[])) ⟨rfl,fun x h=>absurd h List.not_mem_nil,fun x h=>absurd h List.not_mem_nil,fun i j x y _ h=>by simp at h,fun _=>rfl⟩ (h3.take (.cons (.there .here) (.cons (.there .here) (.cons .here .nil))))⟩
theorem t8 {s f c:Nat} {base:Int} {path:aa} {H H':HP} {bs:List Bt} {b:Bt} {A:Addr} {R:HP} (hR:Reads R (some A) b.rv) (hE:batE b=0) (hl:b.recs.length<=10000) (hx:kz base bs<=b.base) (hrows:bs.length<=99999) (hsz:(bs.flatMap batB).length<=1000000000)
  (hA:∀ (R:HP) (A:Option Addr) (cc:Nat),Reads R A (bvs (batB b))->(batB b).length<=cc->cc<=maxLen->Spec Tryz.prog 96 #[.pointer (some ⟨f,0,none⟩),sv path,.slice A (batB b).length cc] [H,R] fun F v M=>v=okV/\M=H' :: R :: F) :
  Spec Tryz.prog 45 #[.pointer (some ⟨s,0,none⟩),.agg (b.v (.slice (some A) b.recs.length c)).toArray] [SGP s f path base bs,H,R] fun F v M=>v=.int .i64 0/\M=SGP s f path base (bs++[b]) :: H' :: R :: F:=by
 refine Spec.opens (SGP.opens s f path base bs) fun x hi=>?_
 refine Spec.post' (Jq hi.ok hR hE hl (by rw [hi.next];exact hx) (by rw [hi.len];exact hrows) (by rw [hi.siz];exact hsz) hA) ?_
 rintro F v M B w ⟨rfl,u2,os2,s2,⟨hn,hsub⟩,rfl⟩ hs
 refine ⟨_,⟨rfl,rfl⟩,Sat.shuts (SGP.opens s f path base (bs++[b])) (x:=(_,u2,os2)) (hi.add rfl hE (by rw [hi.next];exact hx) hn hsub) hs⟩
theorem SG.const {f:FuncId} {args:Array Value} {path:aa} {s g:Nat} {base:Int} {bs:List Bt} {val:Value} (h:∀ x:X3,SegI x.2.2 bs x.1 x.2.1->Spec Tryz.prog f args [pt s (sgO g path base x.1 x.2.1),rowR 151 6 x.2.1 x.1.length (x.1.flatMap SRow.v)] fun F v M=>v=val/\M=pt s (sgO g path base x.1 x.2.1) :: rowR 151 6 x.2.1 x.1.length (x.1.flatMap SRow.v) :: F) :
  Spec Tryz.prog f args [SGP s g path base bs] fun F v M=>v=val/\M=SGP s g path base bs :: F:=by
 refine Spec.opens (SGP.opens s g path base bs) fun x hi=>?_
 refine Spec.post' (Spec.pre' (Spec.frame (frz x.2.2) (h x hi)) (pre':=Nm s g path base x++[]) fun B w F hs=>hs.take (.cons (.there (.there .here)) (.cons .here (.cons .here .nil)))) ?_
 rintro F v M B w ⟨rfl,rfl⟩ hs
 exact ⟨_,⟨rfl,rfl⟩,Sat.shuts (SGP.opens s g path base bs) (x:=x) hi hs⟩
theorem Ug {s f:Nat} {path:aa} {base:Int} {bs:List Bt} (hl:bs.length<=100000):Spec Tryz.prog 49 #[.pointer (some ⟨s,0,none⟩)] [SGP s f path base bs] fun F v M=>v=.int .i64 (kz base bs)/\M=SGP s f path base bs :: F :=
 SG.const fun x hi=>by rw [<- hi.next];exact B1 hi.ok (by rw [hi.len];exact hl)
theorem Uh {s f:Nat} {path:aa} {base:Int} {bs:List Bt}:Spec Tryz.prog 44 #[.pointer (some ⟨s,0,none⟩)] [SGP s f path base bs] fun F v M=>v=.int .i64 (((bs.flatMap batB).length:Nat):Int)/\M=SGP s f path base bs :: F :=
 SG.const fun x hi=>by rw [<- hi.siz];exact Rs
theorem Ui {s f:Nat} {path:aa} {base:Int} {bs:List Bt}:Spec Tryz.prog 50 #[.pointer (some ⟨s,0,none⟩)] [SGP s f path base bs] fun F v M=>v=.int .i64 base/\M=SGP s f path base bs :: F :=
 SG.const fun x hi=>Jn
def BL (v:Value) (bs:List Bt):HP:=exH (fun x:List BRow×List (Nat×Obj)=>x.1.map BRow.b=bs/\∀ y∈x.1,BRowOk x.2 y) (fun x=>[rowR 44 5 v x.1.length (x.1.flatMap BRow.v),frz x.2])
theorem BL.opens (v:Value) (bs:List Bt):Opens (BL v bs) (fun x:List BRow×List (Nat×Obj)=>x.1.map BRow.b=bs/\∀ y∈x.1,BRowOk x.2 y) (fun x=>[rowR 44 5 v x.1.length (x.1.flatMap BRow.v),frz x.2]):=exH.opens
def gotB (mx:Int):Int->Bool->List Bt->List Bt
 | _,_,[]=>[]
 | n,h,x :: l=>if h=true/\mx < n+(((batB x).length:Nat):Int) then [] else x :: gotB mx (n+(((batB x).length:Nat):Int)) true l
theorem Fw {R:HP} {A:Option Addr} {l:List BRow} (hR:Reads R A (l.flatMap BRow.v)) (h:0 < l.length):∃ ab ao,A=some ⟨ab,ao,none⟩:=by
 cases A with
 | none =>
  have h0:l.flatMap BRow.v=[]:=hR
  have h1:=be BRow.v_len l
  rw [h0] at h1
  simp at h1
  omega
 | some a =>
  obtain ⟨x,y,z⟩:=a
  have:z=none:=hR.1
  subst this
  exact ⟨x,y,rfl⟩
theorem Ry :mt Tryz.prog 30=true:=by kernel_rfl
theorem Js :ad Tryz.prog 84 0 0=true:=by kernel_rfl
theorem jl :ad Tryz.prog 84 3 7=true:=by kernel_rfl
theorem sc82 :ai Tryz.prog 82=true:=by kernel_rfl
theorem sl82 :Tryz.prog.underlying 82=some (.slice 86):=by kernel_rfl
theorem so82 :ar Tryz.prog 82 86 1 8=true:=by kernel_rfl
theorem rq (dn nm:aa):(47 :: dn)++[47]++nm=d4 dn nm:=by unfold d4;simp
structure Seg where
 s:Nat
 base:Nat
 bs:List Bt
def Seg.a (x:Seg):SegA:=(x.base,x.bs)
def Seg.ptr (x:Seg):Value:=.pointer (some ⟨x.s,0,none⟩)
abbrev SGA (f:Nat) (dn:aa) (x:Seg):HP:=SGP x.s f (d4 dn (al x.base)) ((x.base:Nat):Int) x.bs
def segsH (f:Nat) (dn:aa) (l:List Seg):HP:=bun (l.map (SGA f dn))
theorem vu {α:Type _} {x:α}:∀ (a b:List α),Rem (a++x :: b) x (a++b)
 | [],_=>.here
 | _ :: a,b=>.there (vu a b)
theorem segsH.out {f:Nat} {dn:aa} {pre post:List Seg} {x:Seg} {B:Base} {w:World} {M:List HP} (h:Sat B w (segsH f dn (pre++x :: post) :: M)):Sat B w (SGA f dn x :: segsH f dn (pre++post) :: M):=by
 obtain ⟨_,_,h1⟩:=Sat.opens h (bun.opens _)
 rw [List.map_append,List.map_cons,List.append_assoc,List.cons_append] at h1
 have h2:=Sat.front (vu _ _) h1
 rw [<- List.append_assoc,<-List.map_append] at h2
 have h3:=Sat.back (vu (x:=SGA f dn x) ((pre++post).map (SGA f dn)) M) h2
 exact Sat.front (.there .here) (Sat.shuts (bun.opens ((pre++post).map (SGA f dn))) (x:=()) trivial h3)
theorem segsH.inn {f:Nat} {dn:aa} {pre post:List Seg} {x:Seg} {B:Base} {w:World} {M:List HP} (h:Sat B w (SGA f dn x :: segsH f dn (pre++post) :: M)):Sat B w (segsH f dn (pre++x :: post) :: M):=by
 obtain ⟨_,_,h1⟩:=Sat.opens (Sat.front (.there .here) h) (bun.opens _)
 have h2:=Sat.front (vu ((pre++post).map (SGA f dn)) M) h1
 rw [List.map_append,List.append_assoc] at h2
 have h3:=Sat.back (vu (x:=SGA f dn x) (pre.map (SGA f dn)) (post.map (SGA f dn)++M)) h2
 refine Sat.shuts (bun.opens ((pre++x :: post).map (SGA f dn))) (x:=()) trivial ?_
 rw [List.map_append,List.map_cons,List.append_assoc,List.cons_append]
 exact h3
section
variable {P:Program} {B:Base} {n:Fr} {Q:Exit->Act->World->Prop} {e:Env} {L M:List HP} {ops:Array Oper} {l:List Oper} {f:Nat} {dn:aa} {x:Seg}
theorem WC.segOut {c:Code} (pre post:List Seg) (h:WC P B n c Q e (SGA f dn x :: segsH f dn (pre++post) :: M)) (r:Rem L (segsH f dn (pre++x :: post)) M:=by repeat (first | exact .here | apply Rem.there)):WC P B n c Q e L :=
 fun a w ha hs=>h a w ha (segsH.out (Sat.front r hs))
theorem WL.segOut (pre post:List Seg) (h:WL P B n ops l Q e (SGA f dn x :: segsH f dn (pre++post) :: M)) (r:Rem L (segsH f dn (pre++x :: post)) M:=by repeat (first | exact .here | apply Rem.there)):WL P B n ops l Q e L :=
 fun a w ha hs=>h a w ha (segsH.out (Sat.front r hs))
theorem WC.segIn {c:Code} (pre post:List Seg) (x:Seg) (h:WC P B n c Q e (segsH f dn (pre++x :: post) :: M)) (t:Tk L [SGA f dn x,segsH f dn (pre++post)] M:=by repeat (first | exact .nil | (apply Tk.cons;focus ((repeat (first | exact .here | apply Rem.there));done)))):WC P B n c Q e L :=
 fun a w ha hs=>h a w ha (segsH.inn (hs.take t))
theorem WL.segIn (pre post:List Seg) (x:Seg) (h:WL P B n ops l Q e (segsH f dn (pre++x :: post) :: M)) (t:Tk L [SGA f dn x,segsH f dn (pre++post)] M:=by repeat (first | exact .nil | (apply Tk.cons;focus ((repeat (first | exact .here | apply Rem.there));done)))):WL P B n ops l Q e L :=
 fun a w ha hs=>h a w ha (segsH.inn (hs.take t))
theorem WQ.segIn {xt:Exit} (pre post:List Seg) (x:Seg) (h:WQ B n Q xt e (segsH f dn (pre++x :: post) :: M)) (t:Tk L [SGA f dn x,segsH f dn (pre++post)] M:=by repeat (first | exact .nil | (apply Tk.cons;focus ((repeat (first | exact .here | apply Rem.there));done)))):WQ B n Q xt e L :=
 fun a w ha hs=>h a w ha (segsH.inn (hs.take t))
end
theorem WQ.dbfUp {B:Base} {n:Fr} {Q:Exit->Act->World->Prop} {e:Env} {L M:List HP} {xt:Exit} {f:Nat} {p:Pl} {dn:aa} {N W:Nat} {F0:FM} {ss:List SegA} (N' W':Nat) (hN:N<=N') (hW:W<=W') (h:WQ B n Q xt e (DBF f p dn N' F0 ss W' :: M)) (r:Rem L (DBF f p dn N F0 ss W) M:=by repeat (first | exact .here | apply Rem.there)):WQ B n Q xt e L :=
 fun a w ha hs=>h a w ha (DBF.wkn hW (DBF.up hN (Sat.front r hs)))
theorem segsH.one {f:Nat} {dn:aa} {pre post:List Seg} {x:Seg} {fn:FuncId} {args:Array Value} {v:Value} (h:Spec Tryz.prog fn args [SGA f dn x] fun F u M=>u=v/\M=SGA f dn x :: F):Spec Tryz.prog fn args [segsH f dn (pre++x :: post)] fun F u M=>u=v/\M=segsH f dn (pre++x :: post) :: F:=by
 refine Spec.post' (Spec.pre' (Spec.frame (segsH f dn (pre++post)) h) (pre':=[segsH f dn (pre++x :: post)]) fun B w F hs=>Sat.front (.there .here) (segsH.out hs)) ?_
 rintro F u M B w ⟨rfl,rfl⟩ hs
 exact ⟨_,⟨rfl,rfl⟩,segsH.inn hs⟩
theorem om {f:Nat} {dn:aa} {pre post:List Seg} {x:Seg}:Spec Tryz.prog 44 #[x.ptr] [segsH f dn (pre++x :: post)] fun F u M=>u=.int .i64 (((byt x.a).length:Nat):Int)/\M=segsH f dn (pre++x :: post) :: F:=segsH.one Uh
theorem Nn {f:Nat} {dn:aa} {pre post:List Seg} {x:Seg}:Spec Tryz.prog 50 #[x.ptr] [segsH f dn (pre++x :: post)] fun F u M=>u=.int .i64 ((x.base:Nat):Int)/\M=segsH f dn (pre++x :: post) :: F:=segsH.one Ui
theorem No {f:Nat} {dn:aa} {pre post:List Seg} {x:Seg} (hl:x.bs.length<=100000):Spec Tryz.prog 49 #[x.ptr] [segsH f dn (pre++x :: post)] fun F u M=>u=.int .i64 (kz ((x.base:Nat):Int) x.bs)/\M=segsH f dn (pre++x :: post) :: F:=segsH.one (Ug hl)
abbrev p5 (f:Nat) (dn:aa) (st:Sts) (u:Value):Obj:=.cells #[.pointer (some ⟨f,0,none⟩),sv (47 :: dn),.int .i64 st.seg,.int .i64 st.bytes,.int .i64 st.age,.bool st.comp,.int .i64 st.delay,u] 84 (0,0)
abbrev ptLs (pp f:Nat) (dn:aa) (st:Sts) (dp:List Value) (x:Nat×Nat×List Seg):List HP:=[pt pp (p5 f dn st (.slice (some ⟨x.1,dp.length,none⟩) x.2.2.length (x.2.1 - dp.length))),buf x.1 86 x.2.1 (dp++x.2.2.map Seg.ptr),segsH f dn x.2.2]
structure PtI (dp:List Value) (ss:List SegA) (x:Nat×Nat×List Seg):Prop where
 l:x.2.2.map Seg.a=ss
 c:dp.length+x.2.2.length<=x.2.1
 m:x.2.1<=maxLen
 n:x.2.2.length<=100000
def PT (pp f:Nat) (dn:aa) (st:Sts) (dp:List Value) (ss:List SegA):HP:=exH (PtI dp ss) (ptLs pp f dn st dp)
theorem PT.opens (pp f:Nat) (dn:aa) (st:Sts) (dp:List Value) (ss:List SegA):Opens (PT pp f dn st dp ss) (PtI dp ss) (ptLs pp f dn st dp):=exH.opens
theorem l8 {g c:Nat} {dp:List Value} {l:List Seg}:Reads (buf g 86 c (dp++l.map Seg.ptr)) (some ⟨g,dp.length,none⟩) (l.map Seg.ptr):=by
 have h:=(Reads.buf (g:=g) (e:=86) (k:=c) (xs:=dp++l.map Seg.ptr)).drop dp.length
 rwa [Nat.zero_add,List.drop_left] at h
theorem zy {l:List Seg} {pre:List SegA} {y:SegA} (h:l.map Seg.a=pre++[y]):∃ l0 z,l=l0++[z]/\l0.map Seg.a=pre/\z.a=y:=by
 rw [List.map_eq_append_iff] at h
 obtain ⟨a,b,rfl,h1,h2⟩:=h
 rw [List.map_eq_singleton_iff] at h2
 obtain ⟨z,rfl,h3⟩:=h2
 exact ⟨a,z,rfl,h1,h3⟩
theorem Fx {l:List Seg} {post:List SegA} {y:SegA} (h:l.map Seg.a=y :: post):∃ z l0,l=z :: l0/\z.a=y/\l0.map Seg.a=post:=by
 rw [List.map_eq_cons_iff] at h
 obtain ⟨z,l0,rfl,h1,h2⟩:=h
 exact ⟨z,l0,rfl,h1,h2⟩
theorem D3 (l0:List Seg) (z:Seg):((l0++[z]).map Seg.ptr)[((((l0++[z]).length:Nat):Int) - 1).toNat]?=some z.ptr:=by
 rw [List.length_append,List.length_singleton,show (((l0.length+1:Nat):Int) - 1).toNat=l0.length by omega,List.map_append,List.getElem?_append_right (by rw [List.length_map];exact Nat.le_refl _),List.length_map,Nat.sub_self]
 rfl
theorem oo {pp f g r n c:Nat} {dn:aa} {st:Sts} (hn:0 < n) (hn2:n<=100000):Spec Tryz.prog 38 #[.pointer (some ⟨pp,0,none⟩)] [pt pp (p5 f dn st (.slice (some ⟨g,r,none⟩) n c))] fun F v M=>v=.bool true/\M=pt pp (p5 f dn st (.slice (some ⟨g,r,none⟩) n c)) :: F:=by
 refine Spec.intro Tryz.func38 rfl rfl fun B F=>?_
 simp only [Tryz.ntmps38,List.cons_append,List.nil_append,env0,Nat.reduceAdd]
 refine .sr (.assign (.x (.move ?_)))
 refine .neNil ?_ Ry
 refine .move (.gT (.move (.gT (.nilCheck (.gT ?_)))))
 refine .fa ?_ Js
 refine .gT ?_
 refine .ld ?_ sc29
 refine .gT ?_
 refine .neNil ?_ uu
 refine .cast (d:=10) (u:=.bool true) rfl rfl ?_
 refine .pickT (.move (.gT (.move (.gT (.nilCheck ?_)))))
 refine .gT ?_
 refine .fa ?_ jl
 refine .gT ?_
 refine .ld ?_ sc82
 refine .gT ?_
 refine .lenS ?_ sl82
 refine .gT ?_
 refine .gtr ?_
 refine .cast (d:=18) (u:=.bool true) rfl (cB9 (decide_eq_true (by omega))) ?_
 refine .pickT (.assign (.z (.ret (?_))))
 exact .ret1 (h1:=.tmp (t:=2) rfl) ⟨_,⟨rfl,rfl⟩,Am.auto⟩
theorem vv {pp f g r n c:Nat} {dn:aa} {st:Sts} {ys:List Value} {s:Nat} {R:HP} (hR:Reads R (some ⟨g,r,none⟩) ys) (hn:0 < n) (hn2:n<=100000) (hnc:n<=c) (hx:ys[(((n:Nat):Int) - 1).toNat]?=some (.pointer (some ⟨s,0,none⟩))):Spec Tryz.prog 43 #[.pointer (some ⟨pp,0,none⟩)] [pt pp (p5 f dn st (.slice (some ⟨g,r,none⟩) n c)),R] fun F v M=>v=.pointer (some ⟨s,0,none⟩)/\M=pt pp (p5 f dn st (.slice (some ⟨g,r,none⟩) n c)) :: R :: F:=by
 refine Spec.intro Tryz.func43 rfl rfl fun B F=>?_
 simp only [Tryz.ntmps43,List.cons_append,List.nil_append,env0,Nat.reduceAdd]
 refine .sr (.assign (.z (.seq ?_)))
 refine .dr ([pt pp (p5 f dn st (.slice (some ⟨g,r,none⟩) n c)),R]) [] 13 mixed .autoJ ?_
 refine .tk 0 rfl .move ?_
 refine .tk 1 rfl .nilCheck ?_
 refine .tk 2 rfl (.fa jl) ?_
 refine .tk 3 rfl (.ld sc82) ?_
 refine .tk 4 rfl .move ?_
 refine .tk 5 rfl .nilCheck ?_
 refine .tk 6 rfl (.fa jl) ?_
 refine .tk 7 rfl (.ld sc82) ?_
 refine .tk 8 rfl (.lenS sl82) ?_
 refine .tk 9 rfl .sub ?_
 refine .tk 10 rfl (.idx1 so82) ?_
 refine .tk 11 rfl (Qt.ldR (i:=(((n:Nat):Int) - 1).toNat) sc86 hR hx) ?_
 refine .tk 12 rfl .assign ?_
 refine .fin ?_
 refine .next (.ret (?_))
 exact .ret1 (h1:=.tmp (t:=2) rfl) ⟨_,⟨rfl,rfl⟩,Am.auto⟩
theorem D4 {pp f:Nat} {dn:aa} {st:Sts} {dp:List Value} {ss:List SegA} {pre:List SegA} {y:SegA} (hs:ss=pre++[y]) (hy:y.2.length<=100000):Spec Tryz.prog 18 #[.pointer (some ⟨pp,0,none⟩)] [PT pp f dn st dp ss] fun F v M=>v=.int .i64 (kz ((y.1:Nat):Int) y.2)/\M=PT pp f dn st dp ss :: F:=by
 refine Spec.intro Tryz.func18 rfl rfl fun B F=>?_
 simp only [Tryz.ntmps18,List.cons_append,List.nil_append,env0,Nat.reduceAdd]
 refine .openR (PT.opens pp f dn st dp ss) fun x hx=>?_
 obtain ⟨g0,c0,l⟩:=x
 obtain ⟨hl,hc1,hc2,hn2⟩:=hx
 simp only [ptLs,List.cons_append,List.nil_append] at hl hc1 hc2 hn2 ⊢
 rw [hs] at hl
 obtain ⟨l0,z,rfl,hl0,rfl⟩:=zy hl
 rw [<- hs] at hl
 have hn:0 < (l0++[z]).length:=by simp
 refine .sr (.assign (.z (.seq (.sr (.move ?_)))))
 refine .call (hc:=Tryz.call38) (sp:=oo hn hn2) (h:=?_)
 rintro _ _ ⟨rfl,rfl⟩
 refine .not (.z ?_)
 refine .condF rfl rfl ?_
 refine .skip (.next (.sr (.move ?_)))
 refine .call (hc:=Tryz.call43) (sp:=vv (pp:=pp) (f:=f) (g:=g0) (r:=dp.length) (n:=(l0++[z]).length) (c:=c0 - dp.length) (dn:=dn) (st:=st) (ys:=(l0++[z]).map Seg.ptr) (s:=z.s) l8 hn hn2 (by omega) (D3 l0 z)) (h:=?_)
 rintro _ _ ⟨rfl,rfl⟩
 refine .call (hc:=Tryz.call49) (sp:=No (f:=f) (dn:=dn) (pre:=l0) (post:=[]) (x:=z) hy) (h:=?_)
 rintro _ _ ⟨rfl,rfl⟩
 refine .assign (.z (.ret (?_)))
 refine .shutR (PT.opens pp f dn st dp ss) (g0,c0,l0++[z]) ⟨hl,hc1,hc2,hn2⟩ ?_
 exact .ret1 (h1:=.tmp (t:=2) rfl) ⟨_,⟨rfl,rfl⟩,Am.auto⟩
theorem ua {pp f:Nat} {dn:aa} {st:Sts} {dp:List Value} {ss:List SegA} {post:List SegA} {y:SegA} (hs:ss=y :: post):Spec Tryz.prog 19 #[.pointer (some ⟨pp,0,none⟩)] [PT pp f dn st dp ss] fun F v M=>v=.int .i64 ((y.1:Nat):Int)/\M=PT pp f dn st dp ss :: F:=by
 refine Spec.intro Tryz.func19 rfl rfl fun B F=>?_
 simp only [Tryz.ntmps19,List.cons_append,List.nil_append,env0,Nat.reduceAdd]
 refine .openR (PT.opens pp f dn st dp ss) fun x hx=>?_
 obtain ⟨g0,c0,l⟩:=x
 obtain ⟨hl,hc1,hc2,hn2⟩:=hx
 simp only [ptLs,List.cons_append,List.nil_append] at hl hc1 hc2 hn2 ⊢
 rw [hs] at hl
 obtain ⟨z,l0,rfl,rfl,hl0⟩:=Fx hl
 rw [<- hs] at hl
 have hn:0 < (z :: l0).length:=by simp
 refine .sr (.assign (.z (.seq (.sr (.move ?_)))))
 refine .call (hc:=Tryz.call38) (sp:=oo hn hn2) (h:=?_)
 rintro _ _ ⟨rfl,rfl⟩
 refine .not (.z ?_)
 refine .condF rfl rfl ?_
 refine .skip (.next (.sr (.move (.nilCheck ?_))))
 refine .fa ?_ jl
 refine .ld ?_ sc82
 refine .idx1 ?_ so82
 refine .ldR (i:=0) (v:=z.ptr) ?_ sc86 (l8 (l:=z :: l0)) rfl
 refine .call (hc:=Tryz.call50) (sp:=Nn (f:=f) (dn:=dn) (pre:=[]) (post:=l0) (x:=z)) (h:=?_)
 rintro _ _ ⟨rfl,rfl⟩
 refine .assign (.z (.ret (?_)))
 refine .shutR (PT.opens pp f dn st dp ss) (g0,c0,z :: l0) ⟨hl,hc1,hc2,hn2⟩ ?_
 exact .ret1 (h1:=.tmp (t:=2) rfl) ⟨_,⟨rfl,rfl⟩,Am.auto⟩
theorem z1 {el size k:Nat} {v:Value} {xs:List Value} (hk:0 < k):∀ h,rowR el size v k xs h->∃ x:Nat×Nat×Nat,v=.slice (some ⟨x.1,0,none⟩) k x.2.1/\buf x.1 el x.2.2 xs h:=by
 intro h hh
 obtain ⟨x,⟨h1,h2⟩,h3⟩:=jk hk h hh
 unfold pt at h3
 refine ⟨(x.1,x.2.1,x.2.2.size),h1,?_⟩
 unfold buf
 refine ⟨x.2.2,h3,rfl,h2,?_⟩
 have h4:=congrArg List.length h2
 rw [List.length_take] at h4
 have:x.2.2.toList.length=x.2.2.size:=Array.length_toList
 show xs.length<=x.2.2.size
 omega
def midR (l:List Rc) (i:Nat):List Rc:=fu 0 (l.take i)++l.drop i
theorem Jt (l:List Rc):midR l 0=l:=by simp [midR,fu]
theorem Ju (l:List Rc):midR l l.length=fu 0 l:=by simp [midR]
theorem Np {l:List Rc} {i:Nat} (hi:i < l.length):((midR l i).flatMap Rc.v).set (0+((i:Nat):Int).toNat * 6+5) (.int .i64 ((i:Nat):Int))=(midR l (i+1)).flatMap Rc.v:=by
 obtain ⟨r,hr⟩:∃ r,l[i]?=some r:=⟨_,List.getElem?_eq_getElem hi⟩
 have h1:l.drop i=r :: l.drop (i+1):=by
  rw [List.drop_eq_getElem_cons hi]
  rw [List.getElem?_eq_getElem hi] at hr
  injection hr with hr
  rw [hr]
 have h2:((fu 0 (l.take i)).flatMap Rc.v).length=i * 6:=by
  rw [be Rc.v_len,jj,List.length_take]
  congr 1
  omega
 unfold midR
 rw [Fo hr,h1,List.flatMap_append,List.flatMap_append,List.flatMap_append,List.set_append,h2]
 rw [if_neg (by rw [Int.toNat_natCast];omega),show 0+((i:Nat):Int).toNat * 6+5 - i * 6=5 by rw [Int.toNat_natCast];omega,List.append_assoc]
 congr 1
theorem Nq {l:List Rc} {i:Nat} (hi:i<=l.length):((midR l i).flatMap Rc.v).length=l.length * 6:=by
 unfold midR
 rw [be Rc.v_len,List.length_append,jj,List.length_take,List.length_drop]
 congr 1
 omega
theorem Uj (a s p q:Int) (A:Option Addr) (m c:Nat):av Tryz.prog 44 [(0,.int .i64 a),(1,.int .i64 s),(2,.int .i64 p),(3,.int .i64 q),(4,.slice A m c)] #[.int .i64 a,.int .i64 s,.int .i64 p,.int .i64 q,.slice A m c]:=fun w=>by kernel_rfl
theorem Nr {R:HP} {A:Option Addr} {c:Nat} {b:Bt} (hR:Reads R A b.rv) (hl:b.recs.length<=10000):Spec Tryz.prog 87 #[.agg (b.v (.slice A b.recs.length c)).toArray] [R] fun F v M=>v=.int .i64 (batE b)/\M=R :: F:=by
 refine Spec.intro Tryz.func87 rfl rfl fun B F=>?_
 simp only [Tryz.ntmps87,List.cons_append,List.nil_append,env0,Nat.reduceAdd]
 refine .sr ?_
 refine .box fun b1=>?_
 refine .assign (.x ?_)
 refine .ldA ?_ dz
 refine .call (hc:=Tryz.call40) (sp:=ol hR hl) (h:=?_)
 rintro _ _ (⟨hE,rfl,rfl⟩ | ⟨hE,g,q,⟨rfl,h1,h2⟩,rfl⟩)
 ·refine .move ?_
  refine .extract (.extract ?_)
  refine .assign (.assign (.x (.move (.assign (.z ?_)))))
  refine .ret (?_)
  exact .ret1 (h1:=.tmp (t:=2) rfl) ⟨_,⟨rfl,rfl⟩,Am.auto⟩
 ·refine .move ?_
  refine .extract (.extract ?_)
  refine .assign (.assign (.x (.move (.assign (.z ?_)))))
  refine .ret (?_)
  exact .ret1 (h1:=.tmp (t:=2) rfl) ⟨_,⟨by rw [hE];rfl,rfl⟩,Am.auto⟩
theorem Ns {R:HP} {A:Addr} {c:Nat} {base prod seq:Int} {l:List Rc} (hR:Reads R (some A) (l.flatMap Rc.v)) (hpos:0 < l.length) (hl:l.length<=10000):Spec Tryz.prog 39 #[.int .i64 base,.int .i64 prod,.int .i64 seq,.slice (some A) l.length c] [R]
  fun F v M=>(batE (az base prod seq l)≠0/\v=.tuple #[.agg #[.int .i64 0,.int .i64 0,.int .i64 0,.int .i64 0,.slice none 0 0],.int .i64 (batE (az base prod seq l))]/\M=R :: F) ∨
   (batE (az base prod seq l)=0/\∃ g c2 q,v=.tuple #[.agg ((az base prod seq l).v (.slice (some ⟨g,0,none⟩) (az base prod seq l).recs.length c2)).toArray,.int .i64 0]/\M=buf g 95 q (az base prod seq l).rv :: R :: F):=by
 refine Spec.intro Tryz.func39 rfl rfl fun B F=>?_
 simp only [Tryz.ntmps39,List.cons_append,List.nil_append,env0,Nat.reduceAdd]
 have hn:(az base prod seq l).recs.length=l.length:=jj l 0
 refine .sr ?_
 refine .alloc z44 fun b8=>?_
 refine .assign (.x (.move ?_))
 refine .call (hc:=Tryz.call86) (sp:=zw (l:=l) hR hpos (by omega)) (h:=?_)
 rintro _ _ ⟨A2,c2,rfl,rfl⟩
 refine .toE (A:=rowR 95 6 (.slice (some A2) l.length c2) l.length (l.flatMap Rc.v)) (z1 hpos) ?_
 rintro ⟨g2,c3,q⟩ hv2
 injection hv2 with hA2 _ hc2
 injection hA2 with hA2
 simp only at hA2 hc2
 subst hA2
 subst hc2
 refine .to (A:=buf g2 95 q (l.flatMap Rc.v)) (A':=buf g2 95 q ((midR l 0).flatMap Rc.v)) (fun h hh=>by rw [Jt];exact hh) ?_
 refine .assign (.z (.seq (.sr (.move ?_))))
 refine .lenS ?_ sl37
 refine .move (.z (.block ?_))
 refine .loopA (σ:=Nat) (fun i=>[(0,.int .i64 base),(1,.int .i64 prod),(2,.int .i64 seq),(3,.slice (some ⟨g2,0,none⟩) l.length c2),(8,.pointer (some ⟨b8,0,none⟩)),(9,.int .i64 0),(16,.int .i64 ((l.length:Nat):Int)),(17,.int .i64 ((i:Nat):Int))]) (fun i=>[pt b8 (.cells #[.int .i64 0,.int .i64 0,.int .i64 0,.int .i64 0,.slice none 0 0] 44 (0,0)),buf g2 95 q ((midR l i).flatMap Rc.v),R]++F) (fun i=>i<=l.length) (fun i=>l.length - i) 0 (Nat.zero_le _) ?_
 rintro i hi
 refine .sr ?_
 refine .lss (.z (.seq ?_))
 refine .cond rfl (fun hd=>?_) (fun hd=>?_)
 ·have hil:i < l.length:=by have h:((i:Nat):Int) < ((l.length:Nat):Int):=of_decide_eq_true hd;omega
  refine .skip (.next (.seq (.block (.sr (.move (.assign (.y (.move (.move ?_)))))))))
  refine .move ?_
  refine .idx ?_ so37
  refine .fa ?_ og
  refine .stB (i:=0+((i:Nat):Int).toNat * 6+5) ?_ sc3 (by rw [Nq (by omega),Int.toNat_natCast];omega)
  rw [Np hil]
  refine .nil (.blockNormal (.next (.region ?_)))
  refine .add ?_
  refine .move (.nil ?_)
  exact .back (i+1) (show i+1<=l.length from hil) (show l.length - (i+1) < l.length - i by omega)
 ·have hge:i=l.length:=by have h:¬ ((i:Nat):Int) < ((l.length:Nat):Int):=of_decide_eq_false hd;have h2:i<=l.length:=hi;omega
  subst hge
  rw [Ju]
  refine .exit (.thenExit (.thenExit (.blockExit (?_))))
  refine .next (.sr (.move (.move ?_)))
  refine .lenS ?_ sl37
  refine .maxI ?_
  refine .cast (d:=29) (u:=.int .i64 (max ((l.length:Nat):Int) 1)) rfl (cI9 (by split<;>omega)) ?_
  refine .move (.move (.move ?_))
  refine .build ?_ (Uj _ _ _ _ _ _ _)
  refine .alloc z44 fun b11=>?_
  refine .stV ?_ dz
  refine .z (.seq (.sr ?_))
  refine .ldA ?_ dz
  refine .cast (d:=34) (u:=.agg ((az base prod seq l).v (.slice (some ⟨g2,0,none⟩) (az base prod seq l).recs.length c2)).toArray) rfl (by rw [hn];rfl) ?_
  refine .call (hc:=Tryz.call87) (sp:=Nr (R:=buf g2 95 q ((fu 0 l).flatMap Rc.v)) (A:=some ⟨g2,0,none⟩) (c:=c2) (b:=az base prod seq l) Reads.buf (by rw [hn];omega)) (h:=?_)
  rintro _ _ ⟨rfl,rfl⟩
  refine .assign (.x (.move ?_))
  refine .nei (.z ?_)
  refine .cond rfl (fun hq=>?_) (fun hq=>?_)
  ·have hne:batE (az base prod seq l)≠0:=by simpa using hq
   refine .sr ?_
   refine .build ?_ Jk
   refine .move ?_
   refine .stV ?_ dz
   refine .assign (.z ?_)
   refine .ret (.thenRet (?_))
   exact .ret2 (h2:=.tmp (t:=9) rfl) ⟨_,.inl ⟨hne,rfl,rfl⟩,Am.auto⟩
  ·have h0:batE (az base prod seq l)=0:=by simpa using hq
   refine .skip (.next (.sr ?_))
   refine .ldA ?_ dz
   refine .stV ?_ dz
   refine .assign (.z (.ret (?_)))
   exact .ret2 (h2:=.tmp (t:=9) rfl) ⟨_,.inr ⟨h0,g2,c2,q,by rw [hn],rfl⟩,Am.auto⟩
end Go.Proofs.YtmihjfcbofejoaaGreatDoor
end
