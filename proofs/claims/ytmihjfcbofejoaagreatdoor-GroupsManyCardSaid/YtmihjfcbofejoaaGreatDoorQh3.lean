/- A part of the proof of iv: texts of this work put together. -/
import Derived.Test.YtmihjfcbofejoaaGreatDoorQh2
import Derived.KernelRfl
set_option linter.unusedVariables false
set_option linter.unusedSimpArgs false
set_option linter.unusedSectionVars false
section
namespace Go.Proofs.YtmihjfcbofejoaaGreatDoor
open Go
theorem z233 :ba Tryz.prog 233=some (#[.int .i64 0,.int .i64 0]):=by kernel_rfl
theorem Oj :c5 Tryz.prog 233 2=true:=by kernel_rfl
structure IsHead (gen m:Nat) (bl:List Nat) (hb:aa):Prop where
 len:hb.length=512
 mrk:hb.take 8=lj
 gn:ax (seg hb 8 8 false)=gen
 no:ax (seg hb 16 8 false)=m
 ct:ax (seg hb 24 8 false)=bl.length
 nth:∀ i (h:i < bl.length),ax (seg hb (32+4 * i) 4 false)=bl[i]
 few:bl.length<=60
theorem IsHead.one {gen m m':Nat} {bl bl':List Nat} {hb:aa} (h:IsHead gen m bl hb) (h':IsHead gen m' bl' hb):m=m'/\bl=bl':=by
 refine ⟨h.no.symm.trans h'.no,List.ext_getElem (h.ct.symm.trans h'.ct) fun i h1 h2=>(h.nth i h1).symm.trans (h'.nth i h2)⟩
theorem IsHead.not {gen m:Nat} {bl:List Nat} {hb:aa} (h:IsHead gen m bl hb) (h':s8 gen hb):False:=by
 rcases h' with h1 | h1
 ·exact h1 h.mrk
 ·exact h1 h.gn
theorem nw {ys:aa} (hy:ys.length=8) (nums:List Nat) {k:Nat} (hk:k < nums.length) (hv:nums.getD k 0 < 2 ^ 64) (hl:nums.length<=60):∀ i,k < i->i<=nums.length->ax (seg (jc ys nums i) (8 * (k+1)) 8 false)=nums.getD k 0
 | i+1,h1,h2=>by
  rw [jc]
  have hlen:=fk (ys:=ys) (by omega) nums i
  by_cases hki:k=i
  ·subst hki
   exact gz (by omega) (by rw [show (256:Nat) ^ 8=2 ^ 64 from by decide];exact hv)
  ·rw [ah (by omega)]
   exact nw hy nums hk hv hl i (by omega) (by omega)
theorem s9 {ys:aa} (hy:ys.length=8) (nums:List Nat):∀ i,(jc ys nums i).take 8=ys
 | 0=>by rw [jc,List.take_append_of_le_length (by omega),List.take_of_length_le (by omega)]
 | i+1=>by
  rw [jc,Cr (by omega)]
  exact s9 hy nums i
theorem ny (gen nn:Nat) (l:List (Nat×aa)) {p size:Nat} (hp:p+size<=32):∀ i,seg (fz gen nn l i) p size false=seg (s6 lj [gen,nn,l.length]) p size false
 | 0=>rfl
 | i+1=>by rw [fz,ah (by omega)];exact ny gen nn l hp i
theorem y4 (gen nn:Nat) (l:List (Nat×aa)) (hl:l.length<=60) (hb:∀ p∈l,p.1 < 2 ^ 32) {k:Nat} (hk:k < l.length):∀ i,k < i->i<=l.length->ax (seg (fz gen nn l i) (32+4 * k) 4 false)=l[k].1
 | i+1,h1,h2=>by
  rw [fz]
  have hlen:=fm gen nn l i
  by_cases hki:k=i
  ·subst hki
   rw [List.getElem?_eq_getElem hk]
   exact gz (by omega) (by rw [show (256:Nat) ^ 4=2 ^ 32 from by decide];exact hb _ (List.getElem_mem hk))
  ·rw [ah (by omega)]
   exact y4 gen nn l hl hb hk i (by omega) (by omega)
theorem vb (gen nn:Nat) (l:List (Nat×aa)):∀ i,(fz gen nn l i).take 8=lj
 | 0=>s9 (ys:=lj) rfl _ _
 | i+1=>by rw [fz,Cr (by omega)];exact vb gen nn l i
theorem Lz {gen nn:Nat} {l:List (Nat×aa)} (hg:gen < 2 ^ 64) (hn:nn < 2 ^ 64) (hl:l.length<=60) (hb:∀ p∈l,p.1 < 2 ^ 32):IsHead gen nn (l.map (·.1)) (nu gen nn l):=by
 refine ⟨fm gen nn l _,vb gen nn l _,?_,?_,?_,fun i h=>?_,by rw [List.length_map];exact hl⟩
 ·unfold nu;rw [ny gen nn l (by decide)];exact nw (ys:=lj) rfl [gen,nn,l.length] (k:=0) (Nat.le_of_ble_eq_true rfl) hg (Nat.le_of_ble_eq_true rfl) 3 (Nat.le_of_ble_eq_true rfl) (Nat.le_of_ble_eq_true rfl)
 ·unfold nu;rw [ny gen nn l (by decide)];exact nw (ys:=lj) rfl [gen,nn,l.length] (k:=1) (Nat.le_of_ble_eq_true rfl) hn (Nat.le_of_ble_eq_true rfl) 3 (Nat.le_of_ble_eq_true rfl) (Nat.le_of_ble_eq_true rfl)
 ·unfold nu;rw [ny gen nn l (by decide),List.length_map];exact nw (ys:=lj) rfl [gen,nn,l.length] (k:=2) (Nat.le_of_ble_eq_true rfl) (show l.length < 2 ^ 64 by omega) (Nat.le_of_ble_eq_true rfl) 3 (Nat.le_of_ble_eq_true rfl) (Nat.le_of_ble_eq_true rfl)
 ·rw [List.length_map] at h
  rw [List.getElem_map]
  exact y4 gen nn l hl hb h _ h (Nat.le_refl _)
structure HeadsOk (n:Nat) (J:JS):Prop where
 magic:(J.cur 0).take 8=dt
 gen:ax (seg (J.cur 0) 8 8 false)=J.gen
 each:∀ i,i<=3->s8 J.gen (J.cur (slotAt i 0)) ∨ ∃ m bl,IsHead J.gen m bl (J.cur (slotAt i 0))/\1<=m/\m<=J.last/\m % 4=i
 zero:J.last=0->J.ch=[]
 top:J.last≠0->∃ l,Fit n l/\IsHead J.gen J.last (l.map (·.1)) (J.cur (slotAt (J.last % 4) 0))/\(∀ i (h:i < l.length),J.cur (slotAt (J.last % 4) (i+1))=l[i].2)/\(J.ch=l ∨ (J.ch=[]/\∀ p∈l,J.cur p.1=p.2))
theorem pd {a b a' b':Nat} (hb:b<=60) (hb':b'<=60) (h:slotAt a b=slotAt a' b'):a=a'/\b=b':=by
 unfold slotAt at h
 omega
theorem w9 (cur:Nat->aa) (l:List (Nat×aa)) (k:Nat) (h:∀ p∈l,p.1≠k):lay cur l k=cur k:=by
 induction l generalizing cur with
 | nil=>rfl
 | cons p l ih =>
  show lay (wr cur p.1 p.2) l k=cur k
  rw [ih _ (fun q hq=>h q (List.mem_cons_of_mem _ hq))]
  unfold wr
  rw [if_neg (fun hh=>h p (List.mem_cons_self ..) hh.symm)]
theorem Hh (cur:Nat->aa) (l:List (Nat×aa)) (hn:(l.map (·.1)).Nodup) {p:Nat×aa} (hp:p∈l):lay cur l p.1=p.2:=by
 induction l generalizing cur with
 | nil=>cases hp
 | cons q l ih =>
  simp only [List.map_cons,List.nodup_cons] at hn
  show lay (wr cur q.1 q.2) l p.1=p.2
  rcases List.mem_cons.1 hp with rfl | hp
  ·rw [w9 _ _ _ (fun r hr h=>hn.1 (List.mem_map.2 ⟨r,hr,h⟩))]
   unfold wr
   rw [if_pos rfl]
  ·exact ih _ hn.2 hp
theorem HeadsOk.commit {n:Nat} {J:JS} (h:HeadsOk n J) (hg:J.gen < 2 ^ 64) (hn:n<=65536) (hf:Fit n J.ch) {l:List (Nat×aa)} (hl:Fit n l) (hb:J.last+1 < 2 ^ 64):HeadsOk n (J.commit l):=by
 have hnx:J.next=J.last+1:=Nat.mod_eq_of_lt hb
 have hfew:=hl.few
 have s4:J.next % 4 < 4:=Nat.mod_lt _ (by decide)
 -- what lies below the homes,aside from the slot
 have low:∀ k,k < 245->(∀ b,b<=60->k≠slotAt (J.next % 4) b)->J.wrote l k=J.cur k:=by
  intro k hk hs
  unfold JS.wrote wr
  rw [if_neg (hs 0 (by decide)),w9,w9]
  ·intro p hp hh
   have:=(hf.home p hp).1
   omega
  ·intro p hp hh
   obtain ⟨i,hi,rfl⟩:=List.mem_iff_getElem.1 hp
   rw [ef] at hi
   rw [jd _ l i hi] at hh
   exact hs (i+1) (by omega) hh.symm
 have hhd:J.wrote l (slotAt (J.next % 4) 0)=nu J.gen J.next l:=by
  unfold JS.wrote wr
  rw [if_pos rfl]
 have hdn:((ku (J.next % 4) l).map (·.1)).Nodup:=by
  unfold List.Nodup
  rw [List.pairwise_map,List.pairwise_iff_getElem]
  intro i j hi hj hij hh
  rw [ef] at hi hj
  rw [jd _ l i hi,jd _ l j hj] at hh
  have:=(pd (by omega) (by omega) hh).2
  omega
 have hdat:∀ i (hi:i < l.length),J.wrote l (slotAt (J.next % 4) (i+1))=l[i].2:=by
  intro i hi
  unfold JS.wrote wr
  rw [if_neg (fun hh=>by have:=(pd (by omega) (by omega) hh).2;omega)]
  have hm:(slotAt (J.next % 4) (i+1),l[i].2)∈ku (J.next % 4) l:=by
   rw [<- jd _ l i hi]
   exact List.getElem_mem _
  exact Hh _ _ hdn hm
 have hz:J.wrote l 0=J.cur 0:=low 0 (by decide) (fun b hb=>by unfold slotAt;omega)
 have his:IsHead J.gen J.next (l.map (·.1)) (nu J.gen J.next l):=Lz hg (by omega) hfew (fun p hp=>by have:=(hl.home p hp).2.1;omega)
 refine ⟨?_,?_,fun i hi=>?_,fun h0=>?_,fun _=>⟨l,hl,?_,hdat,.inl rfl⟩⟩
 ·show (J.wrote l 0).take 8=dt
  rw [hz];exact h.magic
 ·show ax (seg (J.wrote l 0) 8 8 false)=J.gen
  rw [hz];exact h.gen
 ·show s8 J.gen (J.wrote l (slotAt i 0)) ∨ ∃ m bl,IsHead J.gen m bl (J.wrote l (slotAt i 0))/\1<=m/\m<=J.next/\m % 4=i
  by_cases his2:i=J.next % 4
  ·subst his2
   rw [hhd]
   exact .inr ⟨_,_,his,by omega,Nat.le_refl _,rfl⟩
  ·rw [low (slotAt i 0) (by unfold slotAt;omega) (fun b hb hh=>his2 (pd (by omega) hb hh).1)]
   rcases h.each i hi with h1 | ⟨m,bl,h1,h2,h3,h4⟩
   ·exact .inl h1
   ·exact .inr ⟨m,bl,h1,h2,by omega,h4⟩
 ·have h0:J.next=0:=h0
  omega
 ·show IsHead J.gen J.next (l.map (·.1)) (J.wrote l (slotAt (J.next % 4) 0))
  rw [hhd];exact his
def JS.settled (J:JS):JS:=⟨J.gen,J.last,[],lay J.cur J.ch⟩
theorem HeadsOk.settled {n:Nat} {J:JS} (h:HeadsOk n J) (hf:Fit n J.ch):HeadsOk n J.settled:=by
 have low:∀ k,k < 245->lay J.cur J.ch k=J.cur k:=fun k hk=>w9 _ _ _ (fun p hp hh=>by have:=(hf.home p hp).1;omega)
 have sl:∀ a b,a<=3->b<=60->slotAt a b < 245:=fun a b ha hb=>by unfold slotAt;omega
 have s4:J.last % 4<=3:=by omega
 refine ⟨?_,?_,fun i hi=>?_,fun _=>rfl,fun h0=>?_⟩
 ·show (lay J.cur J.ch 0).take 8=dt
  rw [low 0 (by decide)];exact h.magic
 ·show ax (seg (lay J.cur J.ch 0) 8 8 false)=J.gen
  rw [low 0 (by decide)];exact h.gen
 ·show s8 J.gen (lay J.cur J.ch (slotAt i 0)) ∨ ∃ m bl,IsHead J.gen m bl (lay J.cur J.ch (slotAt i 0))/\1<=m/\m<=J.last/\m % 4=i
  rw [low _ (sl i 0 hi (by decide))]
  exact h.each i hi
 ·obtain ⟨l,h1,h2,h3,h4⟩:=h.top h0
  refine ⟨l,h1,?_,fun i hi=>?_,.inr ⟨rfl,fun p hp=>?_⟩⟩
  ·show IsHead J.gen J.last _ (lay J.cur J.ch (slotAt (J.last % 4) 0))
   rw [low _ (sl _ 0 s4 (by decide))];exact h2
  ·show lay J.cur J.ch (slotAt (J.last % 4) (i+1))=l[i].2
   rw [low _ (sl _ (i+1) s4 (by have:=h1.few;omega))];exact h3 i hi
  ·show lay J.cur J.ch p.1=p.2
   rcases h4 with h4 | ⟨h4,h5⟩
   ·rw [h4];exact Hh _ _ h1.apart hp
   ·rw [h4];exact h5 p hp
def kw (bl:List Nat):List Value:=ints (bl.map fun (x:Nat)=>(x:Int))
theorem Ez (bl:List Nat) (i:Nat) (h:i < bl.length):kw (bl.take (i+1))=kw (bl.take i)++[.int .i64 (bl[i]:Int)]:=by
 unfold kw ints
 rw [List.take_succ_eq_append_getElem h,List.map_append,List.map_append]
 rfl
theorem y5 (l:List (Nat×aa)):kw (l.map (·.1))=aw l:=by
 unfold kw aw
 rw [List.map_map];rfl
theorem Hi {j d n t gen last mp i m:Nat} {ov:Value} {cur:Nat->aa} {bl:List Nat} (hi:i<=3) (hn:246<=n) (hh:IsHead gen m bl (cur (slotAt i 0))) (hbl:∀ x∈bl,x < 4294967296):Spec Tryz.prog 147 #[.pointer (some ⟨j,0,none⟩),.int .i64 (i:Int)] [pt j (jO d gen last ov mp),DevR d n cur t] fun F v M=>∃ u,v=.tuple #[.int .u64 (m:Int),u]/\M=[rowR 3 1 u bl.length (kw bl),pt j (jO d gen last ov mp),DevR d n cur t]++F:=by
 refine Spec.intro Tryz.func147 rfl rfl fun B F=>?_
 simp only [Tryz.ntmps147,List.cons_append,List.nil_append,env0,Nat.reduceAdd]
 refine .sr (.assign (.assign (.z (.seq ?_))))
 refine .dr ([pt j (jO d gen last ov mp)]) [] 13 mixed .autoJ ?_
 refine .tk 0 rfl .move ?_
 refine .tk 1 rfl .nilCheck ?_
 refine .tk 2 rfl (.fa ix) ?_
 refine .tk 3 rfl (.ld sc28) ?_
 refine .tk 4 rfl .move ?_
 refine .tk 5 rfl (.build (iz _ _)) ?_
 refine .on 6 rfl fun hnp=>?_
 refine .call (hc:=Tryz.call150) (sp:=m9 (a:=i) (b:=0) (by omega)) (h:=?_)
 rintro _ _ ⟨rfl,rfl⟩
 refine .nil (.wa hnp ?_)
 refine .on 7 rfl fun hnp=>?_
 refine .call (hc:=Tryz.call149) (sp:=sy (n:=n) (t:=t) (k:=slotAt i 0) (cur:=cur) (by unfold slotAt;omega)) (h:=?_)
 rintro _ _ ⟨gb,q,rfl,⟨hq1,hq2,hlen⟩,rfl⟩
 refine .nil (.wa hnp ?_)
 refine .tk 8 rfl .move ?_
 refine .tk 9 rfl .extract ?_
 refine .tk 10 rfl .extract ?_
 refine .tk 11 rfl .assign ?_
 refine .tk 12 rfl .assign ?_
 refine .fin ?_
 refine .next (.seq (.seq ?_))
 have hmk:=hh.mrk
 have hgn:=hh.gn
 have hfew:=hh.few
 refine .dr ([buf gb 5 q (bvs (cur (slotAt i 0))),pt j (jO d gen last ov mp)]) [] 17 mixed .autoJ ?_
 refine .tk 0 rfl .move ?_
 refine .tk 1 rfl .nei ?_
 refine .tk 2 rfl .move ?_
 refine .tn 3 rfl .move ?_
 refine .tn 4 rfl (.slcH so79) ?_
 refine .tn 5 rfl (.cvtBS (R:=buf gb 5 q (bvs (cur (slotAt i 0)))) (xs:=(cur (slotAt i 0)).take 8) by79 st9 (by rw [ck];exact Reads.buf.take 8) (by rw [List.length_take,hlen])) ?_
 refine .tn 6 rfl ((Qt.neS ((cur (slotAt i 0)).take 8) lj).eq (v':=.bool false) (by rw [decide_eq_true hmk];rfl)) ?_
 refine .tk 7 rfl .pickF ?_
 refine .tk 8 rfl .move ?_
 refine .tn 9 rfl .move ?_
 refine .tn 11 rfl .move ?_
 refine .tn 12 rfl .nilCheck ?_
 refine .tn 13 rfl (.fa Av) ?_
 refine .tn 14 rfl (.ld fy) ?_
 refine .on 10 rfl fun hnp=>?_
 refine .gT ?_
 refine .call (hc:=Tryz.call219) (sp:=jGet (k:=1) Reads.buf hlen (by decide) (by decide) (by decide)) (h:=?_)
 rintro _ _ ⟨rfl,rfl⟩
 refine .nil (.wa hnp ?_)
 refine .tn 15 rfl ((Qt.nei).eq (v':=.bool false) (by rw [show (8 * (1:Int)).toNat=8 from rfl,hgn,decide_eq_true rfl];rfl)) ?_
 refine .tk 16 rfl .pickF ?_
 refine .fin ?_
 refine .next ?_
 refine .condF rfl rfl ?_
 refine .skip (.next (.seq (.sr (.move ?_))))
 refine .call (hc:=Tryz.call219) (sp:=jGet (k:=3) Reads.buf hlen (by decide) (by decide) (by decide)) (h:=?_)
 rintro _ _ ⟨rfl,rfl⟩
 refine .cvt ?_ cx un3
 refine .cast (d:=41) (u:=.int .i64 (bl.length:Int)) rfl (cI9 (by rw [show (8 * (3:Int)).toNat=24 from rfl,hh.ct,IntWalk.i64_in _ (by omega)])) ?_
 refine .move (.z (.block ?_))
 refine .emp (rowR.nil (e:=3) (size:=1) _) ?_
 refine .loopA (σ:=Nat×Value) (fun y=>[(0,.pointer (some ⟨j,0,none⟩)),(5,y.2),(6,.slice (some ⟨gb,0,none⟩) 512 q),(41,.int .i64 ((bl.length:Nat):Int)),(42,.int .i64 ((y.1:Nat):Int))]) (fun y=>[rowR 3 1 y.2 y.1 (kw (bl.take y.1)),buf gb 5 q (bvs (cur (slotAt i 0))),pt j (jO d gen last ov mp),DevR d n cur t]++F) (fun y=>y.1<=bl.length) (fun y=>bl.length - y.1) (0,.slice none 0 0) (Nat.zero_le _) ?_
 rintro y hk
 obtain ⟨k,u⟩:=y
 simp only at hk ⊢
 refine .sr ?_
 refine .lss (.z (.seq ?_))
 refine .cond rfl (fun hb=>?_) (fun hb=>?_)
 ·have hlt:k < bl.length:=by have h:(k:Int) < (bl.length:Int):=of_decide_eq_true hb;omega
  have hx:=hbl _ (List.getElem_mem hlt)
  have hnth:=hh.nth k hlt
  refine .skip (.next (.seq (.block (.sr (.move (.assign (.x (.move (.move ?_)))))))))
  refine .mul ?_
  refine .add ?_
  refine .call (hc:=Tryz.call157) (sp:=lh (A:=⟨gb,0,none⟩) (n:=512) (c:=q) (xs:=cur (slotAt i 0)) (p:=32+4 * (k:Int)) (size:=4) (big:=false) Reads.buf hlen (by omega) (by omega) (by omega) (by omega)) (h:=?_)
  rintro _ _ ⟨rfl,rfl⟩
  refine .move ?_
  refine .cast (d:=45) (u:=.tuple #[.int .u64 (bl[k]:Int),.bool true]) rfl (by rw [show (32+4 * (k:Int)).toNat=32+4 * k from by omega,show (4:Int).toNat=4 from rfl,hnth]) ?_
  refine .extract (.extract ?_)
  refine .assign (.assign (.z (.seq (.sr (.move ?_)))))
  refine .not (.z ?_)
  refine .condF rfl rfl ?_
  refine .skip (.next (.region (.move (.move ?_))))
  refine .cvt ?_ cx un3
  refine .cast (d:=57) (u:=.int .i64 (bl[k]:Int)) rfl (cI9 (IntWalk.i64_in _ (by omega))) ?_
  refine .buildS (fun b58=>?_) (Oh _)
  refine .append (m:=1) so26 (by decide) (by repeat (first | exact .here | apply Rem.there | apply Repl.there | apply Mem.there)) Reads.pt (by repeat (first | exact .here | apply Rem.there | apply Repl.there | apply Mem.there)) rfl (by simp [Value.single]) (by unfold maxLen;omega) (by omega) ⟨_,z3,rfl⟩ (fun u2 hu2=>?_)
  refine .assign (.nil (.blockNormal (.next (.region ?_))))
  refine .add ?_
  refine .move (.nil ?_)
  refine .to (A:=rowR 3 1 u2 (k+1) (kw (bl.take k)++[.int .i64 (bl[k]:Int)])) (A':=rowR 3 1 u2 (k+1) (kw (bl.take (k+1)))) (fun h hh=>by rw [Ez _ _ hlt];exact hh) ?_
  refine .cast (d:=42) (u:=.int .i64 ((k+1:Nat):Int)) rfl (cI9 (by omega)) ?_
  exact .back (k+1,u2) (by show k+1<=bl.length;omega) (by show bl.length - (k+1) < bl.length - k;omega)
 ·have hge:¬ k < bl.length:=by have h:¬ (k:Int) < (bl.length:Int):=of_decide_eq_false hb;omega
  obtain rfl:k=bl.length:=by omega
  rw [List.take_length]
  refine .exit (.thenExit (.thenExit (.blockExit (?_))))
  refine .next (.sr (.move ?_))
  refine .call (hc:=Tryz.call219) (sp:=jGet (k:=2) Reads.buf hlen (by decide) (by decide) (by decide)) (h:=?_)
  rintro _ _ ⟨rfl,rfl⟩
  refine .cast (d:=62) (u:=.int .u64 (m:Int)) rfl (cI9 (by rw [show (8 * (2:Int)).toNat=16 from rfl,hh.no])) ?_
  refine .move (.assign (.assign (.z (.ret (?_)))))
  exact .ret2 (h1:=.tmp (t:=4) rfl) (h2:=.tmp (t:=5) rfl) ⟨_,⟨u,rfl,rfl⟩,Am.auto⟩
structure OI (J:JS) (i last:Nat) (bl:List Nat):Prop where
 hi:i<=4
 le:∀ k,k < i->∀ m b,IsHead J.gen m b (J.cur (slotAt k 0))->m<=last
 it:(last=0/\bl=[]) ∨ (∃ k,k < i/\IsHead J.gen last bl (J.cur (slotAt k 0))/\1<=last/\last<=J.last)
theorem OI.start (J:JS):OI J 0 0 []:=⟨by decide,fun k h=>absurd h (Nat.not_lt_zero _),.inl ⟨rfl,rfl⟩⟩
theorem OI.stay {J:JS} {i last:Nat} {bl:List Nat} (h:OI J i last bl) (hi:i < 4) (hno:∀ m b,IsHead J.gen m b (J.cur (slotAt i 0))->m<=last):OI J (i+1) last bl:=by
 refine ⟨by omega,fun k hk m b hm=>?_,?_⟩
 ·by_cases hki:k=i
  ·subst hki;exact hno m b hm
  ·exact h.le k (by omega) m b hm
 ·rcases h.it with h1 | ⟨k,h1,h2⟩
  ·exact .inl h1
  ·exact .inr ⟨k,by omega,h2⟩
theorem OI.takes {J:JS} {i last m:Nat} {bl b:List Nat} (h:OI J i last bl) (hi:i < 4) (hh:IsHead J.gen m b (J.cur (slotAt i 0))) (hm:last < m) (h1:m<=J.last):OI J (i+1) m b:=by
 refine ⟨by omega,fun k hk m' b' hm'=>?_,.inr ⟨i,by omega,hh,by omega,h1⟩⟩
 by_cases hki:k=i
 ·subst hki
  rw [(hh.one hm').1]
  exact Nat.le_refl _
 ·have:=h.le k (by omega) m' b' hm'
  omega
theorem OI.done {n:Nat} {J:JS} {last:Nat} {bl:List Nat} (h:OI J 4 last bl) (ho:HeadsOk n J):last=J.last/\∃ l,Fit n l/\bl=l.map (·.1)/\(∀ i (h:i < l.length),J.cur (slotAt (J.last % 4) (i+1))=l[i].2)/\(J.ch=l ∨ (J.ch=[]/\∀ p∈l,J.cur p.1=p.2)):=by
 by_cases h0:J.last=0
 ·rcases h.it with ⟨h1,h2⟩ | ⟨k,_,_,h1,h2⟩
  ·exact ⟨by omega,[],Fit.nil n,h2,(fun i hi=>by cases hi),.inl (ho.zero h0)⟩
  ·omega
 ·obtain ⟨l,t1,t2,t3,t4⟩:=ho.top h0
  have hle:=h.le (J.last % 4) (by omega) _ _ t2
  rcases h.it with ⟨h1,h2⟩ | ⟨k,hk,hh,h1,h2⟩
  ·omega
  ·have hlast:last=J.last:=by omega
   subst hlast
   refine ⟨rfl,l,t1,?_,t3,t4⟩
   rcases ho.each k (by omega) with h5 | ⟨m,b,h5,h6,h7,h8⟩
   ·exact absurd h5 (fun h5=>hh.not h5)
   ·obtain ⟨e1,e2⟩:=hh.one h5
    subst e1
    subst h8
    exact (hh.one t2).2
theorem Cs (cur:Nat->aa):∀ (l:List (Nat×aa)),(∀ p∈l,cur p.1=p.2)->lay cur l=cur
 | [],_=>rfl
 | p :: l,h=>by
  show lay (wr cur p.1 p.2) l=cur
  have e:wr cur p.1 p.2=cur:=by
   funext k
   unfold wr
   split
   ·rename_i hk;subst hk;exact (h p (List.mem_cons_self ..)).symm
   ·rfl
  rw [e]
  exact Cs cur l (fun q hq=>h q (List.mem_cons_of_mem _ hq))
theorem HeadsOk.small {n:Nat} {J:JS} (h:HeadsOk n J) (hn:n<=65536) {i m:Nat} {bl:List Nat} (hh:IsHead J.gen m bl (J.cur (slotAt i 0))):∀ x∈bl,x < 4294967296:=by
 intro x hx
 obtain ⟨k,hk,rfl⟩:=List.mem_iff_getElem.1 hx
 have h1:=wo (seg (J.cur (slotAt i 0)) (32+4 * k) 4 false)
 rw [hh.nth k hk,lz (by rw [hh.len];have:=hh.few;omega)] at h1
 exact h1
theorem S5 {d n:Nat} {J:JS} (hn:246<=n) (hn2:n<=65536) (ho:HeadsOk n J) (hlt:J.last < 2 ^ 64) :
  Spec Tryz.prog 83 #[.pointer (some ⟨d,0,none⟩)] [DevR d n J.cur 0] fun F v M=>∃ j,v=.tuple #[.pointer (some ⟨j,0,none⟩),.int .i64 0]/\M=JR j d n J.settled :: F:=by
 refine Spec.intro Tryz.func83 rfl rfl fun B F=>?_
 simp only [Tryz.ntmps83,List.cons_append,List.nil_append,env0,Nat.reduceAdd]
 refine .sr (.assign (.assign (.z (.seq (.sr (.move ?_))))))
 refine .call (hc:=Tryz.call73) (sp:=ey (n:=n) (t:=0) (cur:=J.cur)) (h:=?_)
 rintro _ _ ⟨rfl,rfl⟩
 refine .lss (.z ?_)
 refine .condF rfl (cB9 (by first|simp;done|simp;omega|omega)) ?_
 refine .skip (.next (.sr (.move ?_)))
 refine .call (hc:=Tryz.call146) (sp:=Cl (n:=n) (t:=0) (cur:=J.cur) (by omega)) (h:=?_)
 rintro _ _ ⟨rfl,rfl⟩
 rw [ho.gen]
 refine .move ?_
 refine .extract (.extract ?_)
 refine .cast (d:=20) (u:=.bool true) rfl (cB9 (decide_eq_true ho.magic)) ?_
 refine .assign (.assign (.z (.seq (.sr (.move ?_)))))
 refine .not (.z ?_)
 refine .condF rfl rfl ?_
 refine .skip (.next (.sr (.move (.move ?_))))
 refine .mkMap fun m25=>?_
 refine .build ?_ (bdJ _ _ _)
 refine .box fun b27=>?_
 refine .assign (.z (.seq (.sr (.move (.z (.block ?_))))))
 have hgen:J.gen < 2 ^ 64:=ho.gen ▸ Hb _ _ _
 refine .emp (rowR.nil (e:=3) (size:=1) _) ?_
 refine .loopA (σ:=Nat×Nat×Value×List Nat) (fun y=>[(0,.pointer (some ⟨d,0,none⟩)),(6,.pointer (some ⟨b27,0,none⟩)),(28,.int .i64 ((y.1:Nat):Int))]) (fun y=>[pt b27 (jO d J.gen y.2.1 y.2.2.1 m25),rowR 3 1 y.2.2.1 y.2.2.2.length (kw y.2.2.2),pt m25 (.map #[] 0),DevR d n J.cur 0]++F) (fun y=>OI J y.1 y.2.1 y.2.2.2) (fun y=>4 - y.1) (0,0,.slice none 0 0,[]) (OI.start J) ?_
 rintro y hy
 obtain ⟨i,last,u,bl⟩:=y
 simp only at hy ⊢
 refine .sr ?_
 refine .lss (.z (.seq ?_))
 refine .cond rfl (fun hb=>?_) (fun hb=>?_)
 ·have hi4:i < 4:=by have h:(i:Int) < 4:=of_decide_eq_true hb;omega
  rcases ho.each i (by omega) with hno | ⟨m,b,hh,hm1,hm2,hm3⟩
  ·refine .skip (.next (.seq (.block (.sr (.move (.assign (.x (.move (.move ?_)))))))))
   refine .call (hc:=Tryz.call147) (sp:=nv (j:=b27) (d:=d) (n:=n) (t:=0) (gen:=J.gen) (last:=last) (mp:=m25) (i:=i) (ov:=u) (cur:=J.cur) (by omega) hn hno) (h:=?_)
   rintro _ _ ⟨rfl,rfl⟩
   simp only [List.cons_append,List.nil_append]
   refine .move ?_
   refine .extract (.extract ?_)
   refine .assign (.assign (.x (.move (.move (.nilCheck ?_)))))
   refine .fa ?_ ec
   refine .ld ?_ fy
   refine .gtr (.z ?_)
   refine .condF rfl (cB9 (by first|simp;done|simp;omega|omega)) ?_
   refine .skip (.blockNormal (.next (.region ?_)))
   refine .add ?_
   refine .move (.nil ?_)
   refine .cast (d:=28) (u:=.int .i64 ((i+1:Nat):Int)) rfl (cI9 (by omega)) ?_
   exact .back (i+1,last,u,bl) (hy.stay hi4 (fun m b hm=>absurd hno (fun h=>hm.not h))) (by show 4 - (i+1) < 4 - i;omega)
  ·by_cases hgt:last < m
   ·refine .skip (.next (.seq (.block (.sr (.move (.assign (.x (.move (.move ?_)))))))))
    refine .call (hc:=Tryz.call147) (sp:=Hi (j:=b27) (d:=d) (n:=n) (t:=0) (gen:=J.gen) (last:=last) (mp:=m25) (i:=i) (ov:=u) (cur:=J.cur) (by omega) hn hh (ho.small hn2 hh)) (h:=?_)
    rintro _ _ ⟨u2,rfl,rfl⟩
    simp only [List.cons_append,List.nil_append]
    refine .fact (ae (el:=3) (size:=1) (v:=u2) (k:=b.length) (xs:=kw b)) (fun ⟨A2,c2,hu2,_,_,_,_⟩=>?_)
    subst hu2
    refine .move ?_
    refine .extract (.extract ?_)
    refine .assign (.assign (.x (.move (.move (.nilCheck ?_)))))
    refine .fa ?_ ec
    refine .ld ?_ fy
    refine .gtr (.z ?_)
    refine .condT rfl (cB9 (by first|simp;done|simp;omega|omega)) ?_
    refine .region (.move (.move (.move (.move (.nilCheck ?_)))))
    refine .fa ?_ ec
    refine .st ?_ fy
    refine .nilCheck ?_
    refine .fa ?_ iy
    refine .st ?_ sc26
    refine .nil (.blockNormal (.next (.region ?_)))
    refine .add ?_
    refine .move (.nil ?_)
    refine .cast (d:=28) (u:=.int .i64 ((i+1:Nat):Int)) rfl (cI9 (by omega)) ?_
    exact .back (i+1,m,.slice A2 b.length c2,b) (hy.takes hi4 hh hgt hm2) (by show 4 - (i+1) < 4 - i;omega)
   ·refine .skip (.next (.seq (.block (.sr (.move (.assign (.x (.move (.move ?_)))))))))
    refine .call (hc:=Tryz.call147) (sp:=Hi (j:=b27) (d:=d) (n:=n) (t:=0) (gen:=J.gen) (last:=last) (mp:=m25) (i:=i) (ov:=u) (cur:=J.cur) (by omega) hn hh (ho.small hn2 hh)) (h:=?_)
    rintro _ _ ⟨u2,rfl,rfl⟩
    simp only [List.cons_append,List.nil_append]
    refine .fact (ae (el:=3) (size:=1) (v:=u2) (k:=b.length) (xs:=kw b)) (fun ⟨A2,c2,hu2,_,_,_,_⟩=>?_)
    subst hu2
    refine .move ?_
    refine .extract (.extract ?_)
    refine .assign (.assign (.x (.move (.move (.nilCheck ?_)))))
    refine .fa ?_ ec
    refine .ld ?_ fy
    refine .gtr (.z ?_)
    refine .condF rfl (cB9 (by first|simp;done|simp;omega|omega)) ?_
    refine .skip (.blockNormal (.next (.region ?_)))
    refine .add ?_
    refine .move (.nil ?_)
    refine .cast (d:=28) (u:=.int .i64 ((i+1:Nat):Int)) rfl (cI9 (by omega)) ?_
    exact .back (i+1,last,u,bl) (hy.stay hi4 (fun m2 b2 hm=>by rw [<- (hh.one hm).1];omega)) (by show 4 - (i+1) < 4 - i;omega)
 ·have hi4:i=4:=by have h:¬ (i:Int) < 4:=of_decide_eq_false hb;have:=hy.hi;omega
  subst hi4
  obtain ⟨rfl,l,hfl,rfl,hdat,hch⟩:=hy.done ho
  have hfew:=hfl.few
  have hset:lay J.cur J.ch=lay J.cur l:=by
   rcases hch with h | ⟨h,h2⟩
   ·rw [h]
   ·rw [h,Cs _ _ h2];rfl
  refine .to (A:=rowR 3 1 u (l.map (·.1)).length (kw (l.map (·.1)))) (A':=rowR 3 1 u l.length (aw l)) (fun h hh=>by rw [y5,List.length_map] at hh;exact hh) ?_
  refine .fact (ae (el:=3) (size:=1) (v:=u) (k:=l.length) (xs:=aw l)) (fun ⟨A,cc,hu,hR,hc1,hc2,hlen⟩=>?_)
  subst hu
  refine .blobsNil ?_
  refine .exit (.thenExit (.thenExit (.blockExit (?_))))
  refine .next (.seq (.sr (.move (.nilCheck ?_))))
  refine .fa ?_ iy
  refine .ld ?_ sc26
  refine .lenS ?_ sl26
  refine .move (.z (.block ?_))
  refine .loopA (σ:=Nat×Array MapEntry×Nat×List ((Int×Int)×Value)×List (Value×aa)) (fun z=>[(0,.pointer (some ⟨d,0,none⟩)),(6,.pointer (some ⟨b27,0,none⟩)),(56,.int .i64 ((l.length:Nat):Int)),(57,.int .i64 ((z.1:Nat):Int))]) (fun z=>[pt b27 (jO d J.gen J.last (.slice A l.length cc) m25),rowR 3 1 (.slice A l.length cc) l.length (aw l),pt m25 (.map z.2.1 z.2.2.1),bi z.2.2.2.2,DevR d n J.cur 0]++F) (fun z=>z.1<=l.length/\MapIs sx z.2.1 z.2.2.1 z.2.2.2.1/\Kept z.2.2.2.1 z.2.2.2.2 (J.last % 4) (l.take z.1)) (fun z=>l.length - z.1) (0,#[],0,[],[]) ⟨Nat.zero_le _,MapIs.empty _ _,fun i hi=>by simp at hi⟩ ?_
  rintro z hz
  obtain ⟨k,es,c,kv,bl⟩:=z
  obtain ⟨hk0,hmz,hkz⟩:=hz
  simp only at hk0 hmz hkz ⊢
  refine .sr ?_
  refine .lss (.z (.seq ?_))
  refine .cond rfl (fun hb2=>?_) (fun hb2=>?_)
  ·have hkl:k < l.length:=by have h:(k:Int) < (l.length:Int):=of_decide_eq_true hb2;omega
   have hdk:=hdat k hkl
   have hsl:slotAt (J.last % 4) (k+1) < 245:=by unfold slotAt;omega
   refine .skip (.next (.seq (.block (.sr (.move (.assign (.x (.move ?_))))))))
   refine .nilCheck ?_
   refine .fa ?_ ec
   refine .ld ?_ fy
   refine .call (hc:=Tryz.call148) (sp:=Ew (a:=J.last)) (h:=?_)
   rintro _ _ ⟨rfl,rfl⟩
   refine .move ?_
   refine .build ?_ (iz _ _)
   refine .alloc z233 fun b11=>?_
   refine .stV ?_ Oj
   refine .z ?_
   refine .dr ([pt b27 (jO d J.gen J.last (.slice A l.length cc) m25),pt b11 (.cells #[.int .i64 ((J.last % 4:Nat):Int),.int .i64 (k:Int)] 233 (0,0))]) [] 17 mixed .autoJ ?_
   refine .tk 0 rfl .move ?_
   refine .tk 1 rfl .nilCheck ?_
   refine .tk 2 rfl (.fa m0) ?_
   refine .tk 3 rfl (.ld Ax) ?_
   refine .tk 4 rfl (.ldA Oj) ?_
   refine .tk 5 rfl .move ?_
   refine .tk 6 rfl (.fa Gq) ?_
   refine .tk 7 rfl (.ld sc3) ?_
   refine .tk 8 rfl .move ?_
   refine .tk 9 rfl .add ?_
   refine .tk 10 rfl (.build (iz _ _)) ?_
   refine .on 11 rfl fun hnp=>?_
   refine .call (hc:=Tryz.call150) (sp:=m9 (a:=J.last % 4) (b:=k+1) (by omega)) (h:=?_)
   rintro _ _ ⟨rfl,rfl⟩
   refine .nil (.wa hnp ?_)
   refine .on 12 rfl fun hnp=>?_
   refine .call (hc:=Tryz.call149) (sp:=sy (n:=n) (t:=0) (k:=slotAt (J.last % 4) (k+1)) (cur:=J.cur) (by omega)) (h:=?_)
   rintro _ _ ⟨gb,q,rfl,⟨hq1,hq2,hx5⟩,rfl⟩
   refine .nil (.wa hnp ?_)
   refine .tk 13 rfl .move ?_
   refine .tk 14 rfl .extract ?_
   refine .tk 15 rfl .extract ?_
   refine .on 16 rfl fun hnp=>?_
   refine .upd (k:=(((J.last % 4:Nat):Int),(k:Int))) klP hmz La fun es2 c2 hm2=>?_
   refine .nil (.wa hnp ?_)
   refine .fin ?_
   refine .blockNormal (.next (.region ?_))
   refine .add ?_
   refine .move (.nil ?_)
   refine .blobsAdd (bl:=bl) (g:=gb) (k:=q) (xs:=J.cur (slotAt (J.last % 4) (k+1))) (by rw [hx5];exact hq1) ?_
   have hk3:Kept (kput kv (((J.last % 4:Nat):Int),(k:Int)) (.slice (some ⟨gb,0,none⟩) 512 q)) ((.slice (some ⟨gb,0,none⟩) (J.cur (slotAt (J.last % 4) (k+1))).length q,J.cur (slotAt (J.last % 4) (k+1))) :: bl) (J.last % 4) (l.take (k+1)) :=
    Kept.snoc hkz hkl (v:=.slice (some ⟨gb,0,none⟩) 512 q) (by rw [hx5,hdk])
   refine .cast (d:=57) (u:=.int .i64 ((k+1:Nat):Int)) rfl (cI9 (by omega)) ?_
   exact .back (k+1,es2,c2,_,_) ⟨by show k+1<=l.length;omega,hm2,hk3⟩ (by show l.length - (k+1) < l.length - k;omega)
  ·have hge:¬ k < l.length:=by have h:¬ (k:Int) < (l.length:Int):=of_decide_eq_false hb2;omega
   obtain rfl:k=l.length:=by omega
   rw [List.take_length] at hkz
   refine .exit (.thenExit (.thenExit (.blockExit (?_))))
   refine .next (.seq (.sr (.move ?_)))
   refine .makeFuncB ?_
   refine .move ?_
   refine .makeFuncB ?_
   refine .buildS (fun b88=>?_) (G6 _ _ _ _ _ _)
   refine .call (hc:=Tryz.call151) (sp:=s7 (Chain.cons (I:=[pt b27 (jO d J.gen J.last (.slice A l.length cc) m25),rowR 3 1 (.slice A l.length cc) l.length (aw l),pt m25 (.map es c),bi bl,DevR d n J.cur 0]) (pa (ch:=l) hmz hkz hfl (t:=0) (cur:=J.cur) (by decide)).sub (.cons (goesFlush (d:=d) (n:=n) (t:=0+l.length) (cur:=lay J.cur l)).sub .nil)) Reads.pt rfl (Nat.le_of_ble_eq_true rfl)) (h:=?_)
   rintro _ _ ⟨rfl,rfl⟩
   simp only [List.cons_append,List.nil_append]
   refine .assign (.x (.move ?_))
   refine .nei (.z ?_)
   refine .condF rfl rfl ?_
   refine .skip (.next (.sr (.move (.move ?_))))
   refine .mkMap fun m95=>?_
   refine .nilCheck ?_
   refine .fa ?_ iy
   refine .st ?_ sc26
   refine .nilCheck ?_
   refine .fa ?_ m0
   refine .st ?_ Ax
   refine .x (.move (.assign (.assign (.z (.ret (?_))))))
   refine .blobsNil ?_
   refine .emp (rowR.nil (e:=3) (size:=1) _) ?_
   rw [<- hset]
   refine .shutR (JR.opens b27 d n J.settled) ⟨#[],0,m95,[],[],.slice none 0 0⟩ ⟨MapIs.empty _ _,Kept.nil,Fit.nil n,hn,hn2,hgen,hlt⟩ ?_
   exact .ret2 (h1:=.tmp (t:=2) rfl) (h2:=.tmp (t:=3) rfl) ⟨_,⟨_,rfl,rfl⟩,Am.auto⟩
theorem Hj (cur:Nat->aa) (l:List (Nat×aa)) (k:Nat) (h:∀ p∈l,p.1≠k):lay cur l k=cur k:=by
 induction l generalizing cur with
 | nil=>rfl
 | cons p l ih =>
  show lay (wr cur p.1 p.2) l k=cur k
  rw [ih _ (fun q hq=>h q (List.mem_cons_of_mem _ hq))]
  unfold wr
  rw [if_neg (fun hh=>h p (List.mem_cons_self ..) hh.symm)]
theorem Ct (cur:Nat->aa) (l:List (Nat×aa)) (hn:(l.map (·.1)).Nodup) (k:Nat):lay cur l k=(kget l k).getD (cur k):=by
 induction l generalizing cur with
 | nil=>rfl
 | cons p l ih =>
  obtain ⟨a,xs⟩:=p
  simp only [List.map_cons,List.nodup_cons] at hn
  show lay (wr cur a xs) l k=_
  rw [ih _ hn.2]
  by_cases h:k=a
  ·subst h
   rw [kget_none.2 hn.1]
   simp [kget,wr]
  ·simp only [kget,if_neg h,wr]
theorem Hk (s:Nat) (hs:s < 4) (l:List (Nat×aa)) (hl:l.length<=60):∀ p∈ku s l,p.1 < 245:=by
 intro p hp
 obtain ⟨i,hi,rfl⟩:=List.mem_iff_getElem.1 hp
 rw [ef] at hi
 rw [jd s l i hi]
 unfold slotAt
 simp only
 omega
theorem JS.view_commits {n:Nat} {J:JS} {l:List (Nat×aa)} (hf:Fit n J.ch) (hl:Fit n l) (k:Nat) (hk:245<=k):(J.commits l).view k=(kget l k).getD (J.view k):=by
 unfold JS.commits
 split
 ·rename_i h;subst h;rfl
 ·show (kget l k).getD (J.wrote l k)=_
  congr 1
  unfold JS.wrote
  have h4:J.next % 4 < 4:=Nat.mod_lt _ (by decide)
  rw [show wr (lay (lay J.cur J.ch) (ku (J.next % 4) l)) (slotAt (J.next % 4) 0) (nu J.gen J.next l) k=lay (lay J.cur J.ch) (ku (J.next % 4) l) k from by unfold wr;rw [if_neg (by unfold slotAt;omega)]]
  rw [Hj _ _ _ (fun p hp=>by have:=Hk _ h4 l hl.few p hp;omega),Ct _ _ hf.apart]
  rfl
theorem y6 {a b:List (Nat×aa)} (h:a.Perm b) (hn:(b.map (·.1)).Nodup) (k:Nat):kget a k=kget b k:=by
 have hna:(a.map (·.1)).Nodup:=(h.map _).nodup_iff.2 hn
 cases hb:kget b k with
 | some v=>exact (fh hna).2 (h.mem_iff.2 ((fh hn).1 hb))
 | none =>
  rw [kget_none] at hb ⊢
  exact fun hh=>hb ((h.map _).mem_iff.1 hh)
def tagN (b:aa):Option Nat:=if 513<=b.length then some (b.length - 513) else none
structure Tagged (n r d:Nat) (J:JS):Prop where
 dev:d=r
 ok:HeadsOk n J
 last:J.last+1 < 2 ^ 64
 gen:J.gen < 2 ^ 64
 n2:n<=65536
theorem Hl {b:aa} (h:b.length=512):tagN b=none:=by unfold tagN;rw [h];rfl
def cm0 (V:Nat->aa):Nat->aa:=fun k=>if k < 2 then zeros else V k
theorem rc (V:Nat->aa) {k:Nat} (h:2<=k):cm0 V k=V k:=if_neg (by omega)
theorem Hm (V:Nat->aa):tagN (cm0 V 1)=none:=Hl bg
structure TP (n:Nat) (V0 V:Nat->aa) (D:List Nat) (op:Bool) (y:Nat×Nat×CS):Prop where
 hop:y.2.2.op=op
 h0:∀ k,245<=k->k < n->y.2.2.J.view k=V0 k
 h1:∀ k,245<=k->k < n->y.2.2.view k=V k
 hd:y.2.2.W.map (·.1)=D
 tg:∀ r,tagN (V0 1)=some r->Tagged n r y.2.1 y.2.2.J
 ov:op=true->y.2.2.ov=false
def TR (c n:Nat) (V0 V:Nat->aa) (D:List Nat) (op:Bool):HP:=fun h=>∃ y:Nat×Nat×CS,TP n V0 V D op y/\star [CR c y.1 y.2.1 n y.2.2] h
theorem TR.opens (c n:Nat) (V0 V:Nat->aa) (D:List Nat) (op:Bool):Opens (TR c n V0 V D op) (TP n V0 V D op) (fun y=>[CR c y.1 y.2.1 n y.2.2]):=⟨fun h hh=>hh,fun x hp h hh=>⟨x,hp,hh⟩⟩
attribute [irreducible] TR
def insD (D:List Nat) (k:Nat):List Nat:=if k∈D then D else D++[k]
variable {c n k:Nat} {V0 V:Nat->aa} {D:List Nat} {op:Bool}
theorem S6 :Spec Tryz.prog 133 #[.pointer (some ⟨c,0,none⟩)] [TR c n V0 V D op] fun F v M=>v=.bool op/\M=TR c n V0 V D op :: F:=by
 refine Spec.opens (TR.opens c n V0 V D op) fun y hy=>(Sy (c:=c) (j:=y.1) (d:=y.2.1) (n:=n) (S:=y.2.2)).post ?_
 rintro F v M ⟨rfl,rfl⟩
 exact ⟨_,⟨cB9 hy.hop,rfl⟩,Wk.shutR (TR.opens c n V0 V D op) y hy⟩
theorem pf (h5:245<=k) (hk:k < n):Spec Tryz.prog 212 #[.pointer (some ⟨c,0,none⟩),.int .i64 (k:Int)] [TR c n V0 V D op] fun F v M=>∃ g q el,v=.tuple #[.slice (some ⟨g,0,none⟩) 512 q,.int .i64 0]/\(512<=q/\q<=maxLen/\(V k).length=512)/\M=buf g el q (bvs (V k)) :: TR c n V0 V D op :: F:=by
 refine Spec.opens (TR.opens c n V0 V D op) fun y hy=>(cRead (c:=c) (j:=y.1) (d:=y.2.1) (n:=n) (S:=y.2.2) h5 hk).post ?_
 rintro F v M ⟨g,q,el,rfl,⟨h1,h2,h3⟩,rfl⟩
 rw [hy.h1 k h5 hk] at h3
 refine ⟨_,⟨g,q,el,rfl,⟨h1,h2,h3⟩,rfl⟩,?_⟩
 rw [hy.h1 k h5 hk]
 exact Wk.second (TR.opens c n V0 V D op) y hy
theorem nz {m cc:Nat} {R:HP} {A:Addr} {xs:aa} (h5:245<=k) (hk:k < n) (hR:Reads R (some A) (bvs xs)) (hx:xs.length=m) (hm5:m=512) (hroom:k∈D ∨ D.length < 60) :
  Spec Tryz.prog 78 #[.pointer (some ⟨c,0,none⟩),.int .i64 (k:Int),.slice (some A) m cc] [TR c n V0 V D true,R] fun F v M=>v=okV/\M=TR c n V0 (wr V k xs) (insD D k) true :: R :: F:=by
 refine Spec.opens (TR.opens c n V0 V D true) fun y hy=>?_
 have hr:(kget y.2.2.W k).isSome=true ∨ y.2.2.W.length < 60:=by
  rcases hroom with h | h
  ·left
   cases hg:kget y.2.2.W k with
   | some v=>rfl
   | none=>rw [kget_none,hy.hd] at hg;exact absurd h hg
  ·right
   rw [<- hy.hd,List.length_map] at h
   exact h
 refine (S0 (c:=c) (j:=y.1) (d:=y.2.1) (n:=n) (S:=y.2.2) hy.hop h5 hk hR hx hm5 hr).post ?_
 rintro F v M ⟨rfl,rfl⟩
 refine ⟨_,⟨rfl,rfl⟩,Wk.shutR (M:=R :: F) (TR.opens c n V0 (wr V k xs) (insD D k) true) (y.1,y.2.1,⟨y.2.2.J,kput y.2.2.W k xs,true,y.2.2.ov⟩) ⟨rfl,hy.h0,fun j h1 h2=>?_,?_,hy.tg,hy.ov⟩⟩
 ·have:=hy.h1 j h1 h2
  unfold CS.view at this ⊢
  simp only [cj,wr]
  split
  ·rfl
  ·exact this
 ·show (kput y.2.2.W k xs).map (·.1)=_
  rw [yo,hy.hd];rfl
theorem Qe :Spec Tryz.prog 82 #[.pointer (some ⟨c,0,none⟩)] [TR c n V0 V D true] fun F v M=>v=okV/\M=TR c n (cm0 V) V [] false :: F:=by
 refine Spec.opens (TR.opens c n V0 V D true) fun y hy=>(Cp (c:=c) (j:=y.1) (d:=y.2.1) (n:=n) (S:=y.2.2) hy.hop).post ?_
 rintro F v M ⟨L,hL,hW,hJ,rfl,rfl⟩
 have hv:∀ k,245<=k->k < n->(y.2.2.J.commits L).view k=V k:=fun k h1 h2=>by
  rw [JS.view_commits hJ (hW.perm hL) k h1,y6 hL hW.apart]
  exact hy.h1 k h1 h2
 exact ⟨_,⟨rfl,rfl⟩,Wk.shutR (M:=F) (TR.opens c n (cm0 V) V [] false) (y.1,y.2.1,⟨y.2.2.J.commits L,[],false,y.2.2.ov⟩) ⟨rfl,(fun k h1 h2=>by rw [rc V (by omega)];exact hv k h1 h2),hv,rfl,fun r hr=>(by rw [Hm] at hr;cases hr),fun h=>(by cases h)⟩⟩
theorem Ok :Spec Tryz.prog 76 #[.pointer (some ⟨c,0,none⟩)] [TR c n V0 V D false] fun F v M=>v=okV/\M=TR c n V0 V D true :: F:=by
 refine Spec.opens (TR.opens c n V0 V D false) fun y hy=>(Sz (c:=c) (j:=y.1) (d:=y.2.1) (n:=n) (S:=y.2.2) hy.hop).post ?_
 rintro F v M ⟨rfl,rfl⟩
 exact ⟨_,⟨rfl,rfl⟩,Wk.shutR (M:=F) (TR.opens c n V0 V D true) (y.1,y.2.1,⟨y.2.2.J,y.2.2.W,true,false⟩) ⟨rfl,hy.h0,hy.h1,hy.hd,hy.tg,fun _=>rfl⟩⟩
end Go.Proofs.YtmihjfcbofejoaaGreatDoor
end
section
namespace Go.Proofs.YtmihjfcbofejoaaGreatDoor
open Go
theorem Ol (a b:Int):av Tryz.prog 205 [(0,.int .i64 a),(1,.int .i64 b)] #[.int .i64 a,.int .i64 b]:=fun w=>by kernel_rfl
structure Pl where
 n:Nat
 ino:Nat
 im:Nat
 bm:Nat
 tb:Nat
 da:Nat
 dc:Nat
def Pl.cells (p:Pl):Array Value:=#[.int .i64 (p.n:Int),.int .i64 (p.ino:Int),.int .i64 (p.im:Int),.int .i64 (p.bm:Int),.int .i64 (p.tb:Int),.int .i64 (p.da:Int),.int .i64 (p.dc:Int)]
def alO (c:Nat) (p:Pl):Obj:=.cells #[.pointer (some ⟨c,0,none⟩),.int .i64 (p.n:Int),.int .i64 (p.ino:Int),.int .i64 (p.im:Int),.int .i64 (p.bm:Int),.int .i64 (p.tb:Int),.int .i64 (p.da:Int),.int .i64 (p.dc:Int)] 210 (0,0)
theorem Qf (c:Nat) (a b cc d e f gg:Int):av Tryz.prog 210 [(0,.pointer (some ⟨c,0,none⟩)),(1,.agg #[.int .i64 a,.int .i64 b,.int .i64 cc,.int .i64 d,.int .i64 e,.int .i64 f,.int .i64 gg])] #[.pointer (some ⟨c,0,none⟩),.int .i64 a,.int .i64 b,.int .i64 cc,.int .i64 d,.int .i64 e,.int .i64 f,.int .i64 gg]:=fun w=>by kernel_rfl
def y7 (first many:Nat):Value:=.agg #[.int .i64 (first:Int),.int .i64 (many:Int)]
theorem alNew {c:Nat} {p:Pl}:Spec Tryz.prog 130 #[.pointer (some ⟨c,0,none⟩),.agg p.cells] [] fun F v M=>∃ a,v=.pointer (some ⟨a,0,none⟩)/\M=pt a (alO c p) :: F:=by
 refine Spec.intro Tryz.func130 rfl rfl fun B F=>?_
 simp only [Tryz.ntmps130,List.cons_append,List.nil_append,env0,Nat.reduceAdd]
 refine .sr ?_
 refine .box fun b3=>?_
 refine .assign (.x (.move ?_))
 refine .ldA ?_ f9
 refine .build ?_ (Qf _ _ _ _ _ _ _ _)
 refine .box fun b8=>?_
 refine .assign (.z (.ret (?_)))
 exact .ret1 (h1:=.tmp (t:=4) rfl) ⟨_,⟨_,rfl,rfl⟩,Am.auto⟩
theorem xa {a c:Nat} {p:Pl}:Spec Tryz.prog 137 #[.pointer (some ⟨a,0,none⟩)] [pt a (alO c p)] fun F v M=>v=y7 p.bm p.dc/\M=pt a (alO c p) :: F:=by
 refine Spec.intro Tryz.func137 rfl rfl fun B F=>?_
 simp only [Tryz.ntmps137,List.cons_append,List.nil_append,env0,Nat.reduceAdd]
 refine .sr ?_
 refine .alloc z205 fun b2=>?_
 refine .z (.seq ?_)
 refine .dr ([pt a (alO c p)]) [11] 12 mixed .autoJ ?_
 refine .tk 0 rfl .move ?_
 refine .tk 1 rfl .nilCheck ?_
 refine .tk 2 rfl (.fa iw) ?_
 refine .tk 3 rfl (.fa Ap) ?_
 refine .tk 4 rfl (.ld sc3) ?_
 refine .tk 5 rfl .move ?_
 refine .tk 6 rfl .nilCheck ?_
 refine .tk 7 rfl (.fa iw) ?_
 refine .tk 8 rfl (.fa wu) ?_
 refine .tk 9 rfl (.ld sc3) ?_
 refine .tk 10 rfl (.build (Ol _ _)) ?_
 refine .on 11 rfl fun hnp=>?_
 refine .stV ?_ k9
 refine .nil (.wb hnp ?_)
 refine .fin ?_
 refine .next (.ret (?_))
 exact .ret1 ⟨_,⟨rfl,rfl⟩,Am.auto⟩
theorem rf {a c:Nat} {p:Pl}:Spec Tryz.prog 136 #[.pointer (some ⟨a,0,none⟩)] [pt a (alO c p)] fun F v M=>v=y7 p.im p.ino/\M=pt a (alO c p) :: F:=by
 refine Spec.intro Tryz.func136 rfl rfl fun B F=>?_
 simp only [Tryz.ntmps136,List.cons_append,List.nil_append,env0,Nat.reduceAdd]
 refine .sr ?_
 refine .alloc z205 fun b2=>?_
 refine .z (.seq ?_)
 refine .dr ([pt a (alO c p)]) [11] 12 mixed .autoJ ?_
 refine .tk 0 rfl .move ?_
 refine .tk 1 rfl .nilCheck ?_
 refine .tk 2 rfl (.fa iw) ?_
 refine .tk 3 rfl (.fa sf) ?_
 refine .tk 4 rfl (.ld sc3) ?_
 refine .tk 5 rfl .move ?_
 refine .tk 6 rfl .nilCheck ?_
 refine .tk 7 rfl (.fa iw) ?_
 refine .tk 8 rfl (.fa se) ?_
 refine .tk 9 rfl (.ld sc3) ?_
 refine .tk 10 rfl (.build (Ol _ _)) ?_
 refine .on 11 rfl fun hnp=>?_
 refine .stV ?_ k9
 refine .nil (.wb hnp ?_)
 refine .fin ?_
 refine .next (.ret (?_))
 exact .ret1 ⟨_,⟨rfl,rfl⟩,Am.auto⟩
theorem Hn {a c n:Nat} {p:Pl} {V0 V:Nat->aa} {D:List Nat} {op:Bool}:Spec Tryz.prog 135 #[.pointer (some ⟨a,0,none⟩)] [pt a (alO c p),TR c n V0 V D op] fun F v M=>v=.bool op/\M=pt a (alO c p) :: TR c n V0 V D op :: F:=by
 refine Spec.intro Tryz.func135 rfl rfl fun B F=>?_
 simp only [Tryz.ntmps135,List.cons_append,List.nil_append,env0,Nat.reduceAdd]
 refine .sr (.assign (.x (.move ?_)))
 refine .neNil ?_ qg
 refine .move (.gT (.move (.gT (.nilCheck (.gT ?_)))))
 refine .fa ?_ la
 refine .gT ?_
 refine .ld ?_ dj
 refine .gT ?_
 refine .call (hc:=Tryz.call133) (sp:=S6 (n:=n) (V0:=V0) (V:=V) (D:=D) (op:=op)) (h:=?_)
 rintro _ _ ⟨rfl,rfl⟩
 refine .pickT (.assign (.z (.ret (?_))))
 exact .ret1 (h1:=.tmp (t:=2) rfl) ⟨_,⟨rfl,rfl⟩,Am.auto⟩
theorem xb {f first many:Nat} {cap:Array Value} (I:Nat->List HP) (H:Nat->Prop) (K:List HP->Prop) (hc:∀ args w,(callFunc f args).run Tryz.prog w=.ok (.enter f args) w) (hm:many<=65536) (hf:first<=65536) (h0:H 0)
  (hs:∀ j:Nat,4096 * j < many->H j->Spec Tryz.prog f (#[.int .i64 ((first+j:Nat):Int),.int .i64 ((4096 * j:Nat):Int),.int .i64 ((min (many - 4096 * j) 4096:Nat):Int)]++cap) (I j) fun F v M=>(v=.bool true/\H (j+1)/\M=I (j+1)++F) ∨ (v=.bool false/\∃ Q,K Q/\M=Q++F)) :
  Spec Tryz.prog 138 #[y7 first many,.func (.func f) #[] cap] (I 0) fun F v M=>v=.tuple #[]/\((∃ j,many<=4096 * j/\H j/\M=I j++F) ∨ ∃ Q,K Q/\M=Q++F):=by
 refine Spec.intro Tryz.func138 rfl rfl fun B F=>?_
 simp only [Tryz.ntmps138,List.cons_append,List.nil_append,env0,Nat.reduceAdd]
 refine .sr ?_
 refine .box fun b2=>?_
 refine .x (.assign (.z (.block ?_)))
 refine .loopA (σ:=Nat) (fun j=>[(1,.func (.func f) #[] cap),(2,.pointer (some ⟨b2,0,none⟩)),(4,.int .i64 ((4096 * j:Nat):Int))]) (fun j=>I j++(pt b2 (.cells #[.int .i64 (first:Int),.int .i64 (many:Int)] 205 (0,0)) :: F)) (fun j=>H j) (fun j=>many - 4096 * j) 0 h0 ?_ (hI:=Am.toMid)
 rintro j hp
 refine .seq (.sr (.move ?_))
 refine .fa ?_ At
 refine .ld ?_ sc3 (hm:=Mem.mid)
 refine .lss (.z ?_)
 refine .cond rfl (fun hb=>?_) (fun hb=>?_)
 ·have hlt:4096 * j < many:=by have:=of_decide_eq_true hb;omega
  refine .skip (.next (.seq (.block (.sr (.move ?_)))))
  refine .fa ?_ Pv
  refine .ld ?_ sc3 (hm:=Mem.mid)
  refine .move ?_
  refine .quo ?_
  refine .add ?_
  refine .cast (d:=16) (u:=.int .i64 ((first+j:Nat):Int)) rfl (cI9 (by omega)) ?_
  refine .move ?_
  refine .fa ?_ At
  refine .ld ?_ sc3 (hm:=Mem.mid)
  refine .move ?_
  refine .sub ?_
  refine .minI ?_
  refine .cast (d:=22) (u:=.int .i64 ((min (many - 4096 * j) 4096:Nat):Int)) rfl (cI9 (by split<;>omega)) ?_
  refine .callF (t:=11) (vs:=[.int .i64 ((first+j:Nat):Int),.int .i64 ((4096 * j:Nat):Int),.int .i64 ((min (many - 4096 * j) 4096:Nat):Int)]) rfl rfl hc (by simpa using hs j hlt hp) ?_ Tk.app
  rintro v M (⟨rfl,hH,rfl⟩ | ⟨rfl,Q,hQ,rfl⟩)
  ·refine .not (.z ?_)
   refine .condF rfl rfl ?_
   refine .skip (.blockNormal (.next (.region (.move ?_))))
   refine .add ?_
   refine .assign (.nil ?_)
   refine .cast (d:=4) (u:=.int .i64 ((4096 * (j+1):Nat):Int)) rfl (cI9 (by omega)) ?_
   exact .back (j+1) hH (by omega) (hI:=.refl)
  ·refine .not (.z ?_)
   refine .condT rfl rfl ?_
   refine .ret (.blockRet (.thenRet (.thenRet (.blockRet (?_)))))
   exact .ret0 ⟨_,⟨rfl,.inr ⟨Q,hQ,rfl⟩⟩,Am.trans_mid⟩
 ·have hge:¬ 4096 * j < many:=by have:=of_decide_eq_false hb;omega
  refine .exit (.thenExit (.thenExit (.blockExit (?_))))
  exact .ret0 ⟨_,⟨rfl,.inl ⟨j,by omega,hp,rfl⟩⟩,Am.trans_mid⟩
def dig (V:Nat->aa) (first k:Nat):Bool:=tb (V (first+k / 4096)) (k % 4096)
theorem Cu (V:Nat->aa) (first j i:Nat) (hi:i < 4096):dig V first (4096 * j+i)=tb (V (first+j)) i:=by
 unfold dig
 rw [show (4096 * j+i) / 4096=j from by omega,show (4096 * j+i) % 4096=i from by omega]
theorem Cv (xs:aa):∀ n:Nat,(∀ i < n,tb xs i=true) ∨ ∃ i < n,tb xs i=false/\∀ j < i,tb xs j=true
 | 0=>.inl fun i hi=>by omega
 | n+1=>by
  rcases Cv xs n with h | ⟨i,hi,h1,h2⟩
  ·cases hn:tb xs n with
   | true =>
    refine .inl fun i hi=>?_
    by_cases hin:i=n
    ·subst hin;exact hn
    ·exact h i (by omega)
   | false=>exact .inr ⟨n,by omega,hn,h⟩
  ·exact .inr ⟨i,by omega,h1,h2⟩
def boxA (b a:Nat):HP:=pt b (.cells #[.pointer (some ⟨a,0,none⟩)] 129 (0,0))
def errC (b:Nat) (e:Int):HP:=pt b (.cells #[.int .i64 e] 34 (0,0))
def intC (b:Nat) (i:Int):HP:=pt b (.cells #[.int .i64 i] 3 (0,0))
theorem Qg {a c n b2 b4 b5 blk fr mj:Nat} {p:Pl} {V0 V:Nat->aa} {D:List Nat} (h5:245<=blk) (hk:blk < n) (hm:mj<=4096) (hfr:fr<=65536) (hroom:blk∈D ∨ D.length < 60) :
  Spec Tryz.prog 273 #[.int .i64 (blk:Int),.int .i64 (fr:Int),.int .i64 (mj:Int),.pointer (some ⟨b2,0,none⟩),.pointer (some ⟨b5,0,none⟩),.pointer (some ⟨b4,0,none⟩)] [boxA b2 a,errC b5 3,intC b4 (-1),pt a (alO c p),TR c n V0 V D true] fun F v M =>
   (v=.bool true/\(∀ i < mj,tb (V blk) i=true)/\M=[boxA b2 a,errC b5 3,intC b4 (-1),pt a (alO c p),TR c n V0 V D true]++F) ∨
   (v=.bool false/\∃ i,i < mj/\tb (V blk) i=false/\(∀ j < i,tb (V blk) j=true)/\M=[boxA b2 a,errC b5 0,intC b4 ((fr+i:Nat):Int),pt a (alO c p),TR c n V0 (wr V blk (ej (V blk) i true)) (insD D blk) true]++F):=by
 refine Spec.intro Tryz.func273 rfl rfl fun B F=>?_
 simp only [Tryz.ntmps273,List.cons_append,List.nil_append,env0,Nat.reduceAdd]
 simp only [boxA,errC,intC]
 refine .sr (.assign (.x ?_))
 refine .ld ?_ lb
 refine .nilCheck ?_
 refine .fa ?_ la
 refine .ld ?_ dj
 refine .move ?_
 refine .call (hc:=Tryz.call212) (sp:=pf (n:=n) (V0:=V0) (V:=V) (D:=D) (op:=true) h5 hk) (h:=?_)
 rintro _ _ ⟨gb,q,el,rfl,⟨hq1,hq2,hl5⟩,rfl⟩
 refine .move ?_
 refine .extract (.extract ?_)
 refine .assign (.assign (.z (.seq (.sr (.move ?_)))))
 refine .nei (.z ?_)
 refine .condF rfl rfl ?_
 refine .skip (.next (.sr (.move (.move ?_))))
 refine .call (hc:=Tryz.call274) (sp:=G2 Reads.buf hl5 (by decide) (m:=(mj:Int)) (by omega)) (h:=?_)
 rintro _ _ ⟨rfl,rfl⟩
 refine .assign (.z (.seq (.sr (.move ?_))))
 refine .lss (.z ?_)
 rcases Cv (V blk) mj with hall | ⟨i,hi,hi0,hib⟩
 ·have hf0:r7 (V blk) mj=none:=r9 hall
  refine .cast (d:=29) (u:=.bool true) rfl (cB9 (by rw [Int.toNat_natCast,hf0];rfl)) ?_
  refine .condT rfl rfl ?_
  refine .sr (.assign (.z ?_))
  refine .ret (.thenRet (?_))
  exact .ret1 (h1:=.tmp (t:=9) rfl) ⟨_,.inl ⟨rfl,hall,rfl⟩,Am.auto⟩
 ·have hf0:r7 (V blk) mj=some i:=r8 hi hi0 hib
  refine .cast (d:=29) (u:=.bool false) rfl (cB9 (by rw [Int.toNat_natCast,hf0];exact decide_eq_false (by simp only;omega))) ?_
  refine .cast (d:=12) (u:=.int .i64 (i:Int)) rfl (cI9 (by rw [Int.toNat_natCast,hf0])) ?_
  refine .condF rfl rfl ?_
  refine .skip (.next (.seq ?_))
  refine .dr ([pt b2 (.cells #[.pointer (some ⟨a,0,none⟩)] 129 (0,0)),pt a (alO c p)]) [13] 14 mixed .autoJ ?_
  refine .tk 0 rfl .move ?_
  refine .tk 1 rfl .move ?_
  refine .tk 2 rfl .add ?_
  refine .tk 3 rfl (.ld lb) ?_
  refine .tk 4 rfl .nilCheck ?_
  refine .tk 5 rfl (.fa la) ?_
  refine .tk 6 rfl (.ld dj) ?_
  refine .tk 7 rfl .move ?_
  refine .tk 8 rfl .move ?_
  refine .tk 9 rfl .move ?_
  refine .on 10 rfl fun hnp=>?_
  refine .call (hc:=Tryz.call271) (sp:=P4 Reads.buf hl5 (by decide) (k:=(i:Int)) (by omega) (by omega)) (h:=?_)
  rintro _ _ ⟨gc,kc,⟨rfl,hc1,hc2⟩,rfl⟩
  rw [Int.toNat_natCast]
  refine .nil (.wa hnp ?_)
  refine .on 11 rfl fun hnp=>?_
  refine .call (hc:=Tryz.call78) (sp:=nz (n:=n) (V0:=V0) (V:=V) (D:=D) h5 hk Reads.buf ((k8 _ _ _).trans hl5) rfl hroom) (h:=?_)
  rintro _ _ ⟨rfl,rfl⟩
  refine .nil (.wa hnp ?_)
  refine .on 12 rfl fun hnp=>?_
  refine .st ?_ sc3
  refine .nil (.wa hnp ?_)
  refine .on 13 rfl fun hnp=>?_
  refine .st ?_ sc34
  refine .nil (.wb hnp ?_)
  refine .fin ?_
  refine .next (.sr (.assign (.z (.ret (?_)))))
  exact .ret1 (h1:=.tmp (t:=9) rfl) ⟨_,.inr ⟨rfl,i,hi,hi0,hib,rfl⟩,Am.auto⟩
def setD (V:Nat->aa) (first k:Nat) (on:Bool):Nat->aa:=wr V (first+k / 4096) (ej (V (first+k / 4096)) (k % 4096) on)
structure AreaOk (n first many:Nat):Prop where
 lo:245<=first
 hi:first+(many+4095) / 4096<=n
 few:many<=65536
 n2:n<=65536
theorem AreaOk.blk {n first many:Nat} (h:AreaOk n first many) {j:Nat} (hj:4096 * j < many):245<=first+j/\first+j < n:=by
 have:=h.lo
 have:=h.hi
 omega
def L2 (a c n b2 b4 b5:Nat) (p:Pl) (V0 V:Nat->aa) (D:List Nat):List HP:=[boxA b2 a,errC b5 3,intC b4 (-1),pt a (alO c p),TR c n V0 V D true]
def S7 (a c n b2 b4 b5 first many:Nat) (p:Pl) (V0 V:Nat->aa) (D:List Nat) (Q:List HP):Prop:=∃ k,k < many/\dig V first k=false/\(∀ i < k,dig V first i=true)/\Q=[boxA b2 a,errC b5 0,intC b4 (k:Int),pt a (alO c p),TR c n V0 (setD V first k true) (insD D (first+k / 4096)) true]
def S8 (V:Nat->aa) (first many j:Nat):Prop:=∀ i,i < 4096 * j->i < many->dig V first i=true
theorem L3 {a c n b2 b4 b5 first many:Nat} {p:Pl} {V0 V:Nat->aa} {D:List Nat} (h:AreaOk n first many) (hroom:∀ j,4096 * j < many->first+j∈D ∨ D.length < 60) :
  Spec Tryz.prog 138 #[y7 first many,.func (.func 273) #[] #[.pointer (some ⟨b2,0,none⟩),.pointer (some ⟨b5,0,none⟩),.pointer (some ⟨b4,0,none⟩)]] (L2 a c n b2 b4 b5 p V0 V D)
   fun F v M=>v=.tuple #[]/\((∃ j,many<=4096 * j/\S8 V first many j/\M=L2 a c n b2 b4 b5 p V0 V D++F) ∨ ∃ Q,S7 a c n b2 b4 b5 first many p V0 V D Q/\M=Q++F):=by
 refine xb (fun _=>L2 a c n b2 b4 b5 p V0 V D) (S8 V first many) (S7 a c n b2 b4 b5 first many p V0 V D) Tryz.call273 h.few (by have:=h.hi;have:=h.n2;omega) (fun i hi=>by omega) fun j hj hH=>?_
 have hb:=h.blk hj
 have hs:=Qg (a:=a) (c:=c) (b2:=b2) (b4:=b4) (b5:=b5) (fr:=4096 * j) (mj:=min (many - 4096 * j) 4096) (p:=p) (V0:=V0) (V:=V) hb.1 hb.2 (by omega) (by have:=h.few;omega) (hroom j hj)
 refine Spec.weak hs ?_
 rintro F v M (⟨rfl,hall,rfl⟩ | ⟨rfl,i,hi,hi0,hib,rfl⟩)
 ·refine ⟨_,.inl ⟨rfl,fun k hk hkm=>?_,rfl⟩,.refl⟩
  by_cases hkj:k < 4096 * j
  ·exact hH k hkj hkm
  ·have:=Cu V first j (k - 4096 * j) (by omega)
   rw [show 4096 * j+(k - 4096 * j)=k from by omega] at this
   rw [this]
   exact hall _ (by omega)
 ·refine ⟨_,.inr ⟨rfl,_,⟨4096 * j+i,by omega,?_,fun k hk=>?_,rfl⟩,?_⟩,.refl⟩
  ·rw [Cu V first j i (by omega)];exact hi0
  ·by_cases hkj:k < 4096 * j
   ·exact hH k hkj (by omega)
   ·have:=Cu V first j (k - 4096 * j) (by omega)
    rw [show 4096 * j+(k - 4096 * j)=k from by omega] at this
    rw [this]
    exact hib _ (by omega)
  ·unfold setD
   rw [show (4096 * j+i) / 4096=j from by omega,show (4096 * j+i) % 4096=i from by omega]
theorem Om {a c n first many:Nat} {p:Pl} {V0 V:Nat->aa} {D:List Nat} (h:AreaOk n first many) (hroom:∀ j,4096 * j < many->first+j∈D ∨ D.length < 60) :
  Spec Tryz.prog 244 #[.pointer (some ⟨a,0,none⟩),y7 first many] [pt a (alO c p),TR c n V0 V D true] fun F v M =>
   (∃ k,k < many/\dig V first k=false/\(∀ i < k,dig V first i=true)/\v=.tuple #[.int .i64 (k:Int),.int .i64 0]/\M=[pt a (alO c p),TR c n V0 (setD V first k true) (insD D (first+k / 4096)) true]++F) ∨
   ((∀ i < many,dig V first i=true)/\v=.tuple #[.int .i64 0,.int .i64 3]/\M=[pt a (alO c p),TR c n V0 V D true]++F):=by
 refine Spec.intro Tryz.func244 rfl rfl fun B F=>?_
 simp only [Tryz.ntmps244,List.cons_append,List.nil_append,env0,Nat.reduceAdd]
 refine .sr ?_
 refine .box fun b2=>?_
 refine .box fun b3=>?_
 refine .alloc z3 fun b4=>?_
 refine .alloc z34 fun b5=>?_
 refine .z (.seq (.sr ?_))
 refine .ld ?_ lb
 refine .call (hc:=Tryz.call135) (sp:=Hn (n:=n) (V0:=V0) (V:=V) (D:=D) (op:=true)) (h:=?_)
 rintro _ _ ⟨rfl,rfl⟩
 refine .not (.z ?_)
 refine .condF rfl rfl ?_
 refine .skip (.next (.sr ?_))
 refine .st ?_ sc3
 refine .st ?_ sc34
 refine .x ?_
 refine .ldA ?_ k9
 refine .makeFuncB ?_
 refine .call (hc:=Tryz.call138) (sp:=L3 (a:=a) (c:=c) (b2:=b2) (b4:=b4) (b5:=b5) (p:=p) (V0:=V0) (V:=V) (D:=D) h hroom) (h:=?_)
 rintro _ _ ⟨rfl,(⟨j,hj,hH,rfl⟩ | ⟨Q,⟨k,hk,hk0,hkb,rfl⟩,rfl⟩)⟩<;>simp only [L2,List.cons_append,List.nil_append,errC,intC]
 ·refine .z (.seq (.sr ?_))
  refine .ld ?_ sc34
  refine .nei (.z ?_)
  refine .condT rfl rfl ?_
  refine .seq ?_
  refine .dr ([errC b5 3]) [2] 3 mixed .autoJ ?_
  refine .tk 0 rfl (.ld sc34) ?_
  refine .on 1 rfl fun hnp=>?_
  refine .st ?_ sc3
  refine .nil (.wa hnp ?_)
  refine .on 2 rfl fun hnp=>?_
  refine .st ?_ sc34
  refine .nil (.wb hnp ?_)
  refine .fin ?_
  refine .next ?_
  refine .ret (.thenRet (?_))
  exact .ret2 ⟨_,.inr ⟨fun i hi=>hH i (by omega) hi,rfl,rfl⟩,Am.auto⟩
 ·refine .z (.seq (.sr ?_))
  refine .ld ?_ sc34
  refine .nei (.z ?_)
  refine .condF rfl rfl ?_
  refine .skip (.next (.sr ?_))
  refine .ld ?_ sc3
  refine .st ?_ sc3
  refine .st ?_ sc34
  refine .z (.ret (?_))
  exact .ret2 ⟨_,.inl ⟨k,hk,hk0,hkb,rfl,rfl⟩,Am.auto⟩
structure PlOk (p:Pl):Prop where
 aI:AreaOk p.n p.im p.ino
 aB:AreaOk p.n p.bm p.dc
 i1:1<=p.ino
 i2:p.ino<=4096
 apart:p.im+1<=p.bm
 tbl:p.bm+(p.dc+4095) / 4096<=p.tb
 tab:p.tb+(p.ino+7) / 8<=p.da
 dat:p.da+p.dc=p.n
 d1:1<=p.dc
def Room (D:List Nat):Prop:=D.length < 60
theorem Be {a c:Nat} {p:Pl} {V0 V:Nat->aa} {D:List Nat} (h:PlOk p) (hroom:Room D):Spec Tryz.prog 307 #[.pointer (some ⟨a,0,none⟩)] [pt a (alO c p),TR c p.n V0 V D true] fun F v M =>
   (∃ k,k < p.dc/\dig V p.bm k=false/\(∀ i < k,dig V p.bm i=true)/\v=.tuple #[.int .i64 ((p.da+k:Nat):Int),.int .i64 0]/\M=[pt a (alO c p),TR c p.n V0 (setD V p.bm k true) (insD D (p.bm+k / 4096)) true]++F) ∨
   ((∀ i < p.dc,dig V p.bm i=true)/\v=.tuple #[.int .i64 0,.int .i64 3]/\M=[pt a (alO c p),TR c p.n V0 V D true]++F):=by
 refine Spec.intro Tryz.func307 rfl rfl fun B F=>?_
 simp only [Tryz.ntmps307,List.cons_append,List.nil_append,env0,Nat.reduceAdd]
 have hn2:=h.aB.n2
 have hdat:=h.dat
 refine .sr (.assign (.assign (.z (.seq (.sr (.move ?_))))))
 refine .eqNil ?_ qg
 refine .z ?_
 refine .condF rfl rfl ?_
 refine .skip (.next (.sr (.move (.move ?_))))
 refine .call (hc:=Tryz.call137) (sp:=xa) (h:=?_)
 rintro _ _ ⟨rfl,rfl⟩
 refine .call (hc:=Tryz.call244) (sp:=Om (n:=p.n) (p:=p) (V0:=V0) (V:=V) (D:=D) h.aB (fun _ _=>.inr hroom)) (h:=?_)
 rintro _ _ (⟨k,hk,hk0,hkb,rfl,rfl⟩ | ⟨hall,rfl,rfl⟩)<;>simp only [List.cons_append,List.nil_append]
 ·refine .move ?_
  refine .extract (.extract ?_)
  refine .assign (.assign (.z (.seq (.sr (.move ?_)))))
  refine .nei (.z ?_)
  refine .condF rfl rfl ?_
  refine .skip (.next (.sr (.move (.nilCheck ?_))))
  refine .fa ?_ iw
  refine .fa ?_ Ar
  refine .ld ?_ sc3
  refine .move ?_
  refine .add ?_
  refine .cast (d:=24) (u:=.int .i64 ((p.da+k:Nat):Int)) rfl (cI9 (by omega)) ?_
  refine .assign (.assign (.z (.ret (?_))))
  exact .ret2 (h1:=.tmp (t:=2) rfl) (h2:=.tmp (t:=3) rfl) ⟨_,.inl ⟨k,hk,hk0,hkb,rfl,rfl⟩,Am.auto⟩
 ·refine .move ?_
  refine .extract (.extract ?_)
  refine .assign (.assign (.z (.seq (.sr (.move ?_)))))
  refine .nei (.z ?_)
  refine .condT rfl rfl ?_
  refine .sr (.move (.assign (.assign (.z ?_))))
  refine .ret (.thenRet (?_))
  exact .ret2 (h1:=.tmp (t:=2) rfl) (h2:=.tmp (t:=3) rfl) ⟨_,.inr ⟨hall,rfl,rfl⟩,Am.auto⟩
theorem tc {a c:Nat} {p:Pl} {V0 V:Nat->aa} {D:List Nat} (h:PlOk p) (hroom:Room D):Spec Tryz.prog 193 #[.pointer (some ⟨a,0,none⟩)] [pt a (alO c p),TR c p.n V0 V D true] fun F v M =>
   (∃ k,k < p.ino/\dig V p.im k=false/\(∀ i < k,dig V p.im i=true)/\v=.tuple #[.int .i64 (k:Int),.int .i64 0]/\M=[pt a (alO c p),TR c p.n V0 (setD V p.im k true) (insD D (p.im+k / 4096)) true]++F) ∨
   ((∀ i < p.ino,dig V p.im i=true)/\v=.tuple #[.int .i64 0,.int .i64 3]/\M=[pt a (alO c p),TR c p.n V0 V D true]++F):=by
 refine Spec.intro Tryz.func193 rfl rfl fun B F=>?_
 simp only [Tryz.ntmps193,List.cons_append,List.nil_append,env0,Nat.reduceAdd]
 refine .sr (.assign (.assign (.z (.seq (.sr (.move ?_))))))
 refine .eqNil ?_ qg
 refine .z ?_
 refine .condF rfl rfl ?_
 refine .skip (.next (.sr (.move (.move ?_))))
 refine .call (hc:=Tryz.call136) (sp:=rf) (h:=?_)
 rintro _ _ ⟨rfl,rfl⟩
 refine .call (hc:=Tryz.call244) (sp:=Om (n:=p.n) (p:=p) (V0:=V0) (V:=V) (D:=D) h.aI (fun _ _=>.inr hroom)) (h:=?_)
 rintro _ _ (⟨k,hk,hk0,hkb,rfl,rfl⟩ | ⟨hall,rfl,rfl⟩)<;>simp only [List.cons_append,List.nil_append]
 ·refine .extract (.extract (.assign (.assign (.z (.ret (?_))))))
  exact .ret2 (h1:=.tmp (t:=2) rfl) (h2:=.tmp (t:=3) rfl) ⟨_,.inl ⟨k,hk,hk0,hkb,rfl,rfl⟩,Am.auto⟩
 ·refine .extract (.extract (.assign (.assign (.z (.ret (?_))))))
  exact .ret2 (h1:=.tmp (t:=2) rfl) (h2:=.tmp (t:=3) rfl) ⟨_,.inr ⟨hall,rfl,rfl⟩,Am.auto⟩
theorem Qh (a b c d:Int):bc Tryz.prog 207 2 [(0,.agg #[.int .i64 a,.int .i64 b]),(1,.agg #[.int .i64 c,.int .i64 d])] 205 #[.int .i64 a,.int .i64 b,.int .i64 c,.int .i64 d]:=fun w=>by kernel_rfl
theorem L4 :r5 Tryz.prog 205 2=true:=by kernel_rfl
def cnt (V:Nat->aa) (first m:Nat):Nat:=((List.range m).filter fun k=>dig V first k).length
theorem L5 (V:Nat->aa) (first m:Nat):cnt V first (m+1)=cnt V first m+(if dig V first m then 1 else 0):=by
 unfold cnt
 rw [List.range_succ,List.filter_append,List.length_append]
 cases h:dig V first m<;>simp [h]
theorem Ho (V:Nat->aa) (first m:Nat):cnt V first m<=m:=by
 unfold cnt
 have:=List.length_filter_le (fun k=>dig V first k) (List.range m)
 rw [List.length_range] at this
 exact this
theorem y8 (V:Nat->aa) (first j:Nat):∀ m,m<=4096->cnt V first (4096 * j+m)=cnt V first (4096 * j)+count1 (V (first+j)) m
 | 0,_=>by rw [Ao];rfl
 | m+1,h=>by
  rw [show 4096 * j+(m+1)=4096 * j+m+1 from by omega,L5,y8 V first j m (by omega),sa,Cu V first j m (by omega)]
  omega
theorem Qi {a c n b2 b5 blk mj:Nat} {fr x:Int} {p:Pl} {V0 V:Nat->aa} {D:List Nat} {op:Bool} (h5:245<=blk) (hk:blk < n) (hm:mj<=4096) (hx:0<=x/\x<=1000000) :
  Spec Tryz.prog 305 #[.int .i64 (blk:Int),.int .i64 fr,.int .i64 (mj:Int),.pointer (some ⟨b2,0,none⟩),.pointer (some ⟨b5,0,none⟩)] [boxA b2 a,intC b5 x,pt a (alO c p),TR c n V0 V D op] fun F v M=>v=.bool true/\M=[boxA b2 a,intC b5 (x - count1 (V blk) mj),pt a (alO c p),TR c n V0 V D op]++F:=by
 refine Spec.intro Tryz.func305 rfl rfl fun B F=>?_
 simp only [Tryz.ntmps305,List.cons_append,List.nil_append,env0,Nat.reduceAdd]
 simp only [boxA,intC]
 have hcl:=yq (V blk) mj
 refine .sr (.assign (.x ?_))
 refine .ld ?_ lb
 refine .nilCheck ?_
 refine .fa ?_ la
 refine .ld ?_ dj
 refine .move ?_
 refine .call (hc:=Tryz.call212) (sp:=pf (n:=n) (V0:=V0) (V:=V) (D:=D) (op:=op) h5 hk) (h:=?_)
 rintro _ _ ⟨gb,q,el,rfl,⟨hq1,hq2,hl5⟩,rfl⟩
 refine .move ?_
 refine .extract (.extract (.assign (.assign (.z (.seq ?_)))))
 refine .dr ([pt b5 (.cells #[.int .i64 x] 3 (0,0))]) [5] 6 mixed .autoJ ?_
 refine .tk 0 rfl (.ld sc3) ?_
 refine .tk 1 rfl .move ?_
 refine .tk 2 rfl .move ?_
 refine .on 3 rfl fun hnp=>?_
 refine .call (hc:=Tryz.call306) (sp:=G3 Reads.buf hl5 (by decide) (m:=(mj:Int)) (by omega)) (h:=?_)
 rintro _ _ ⟨rfl,rfl⟩
 rw [Int.toNat_natCast]
 refine .nil (.wa hnp ?_)
 refine .tk 4 rfl .sub ?_
 refine .on 5 rfl fun hnp=>?_
 refine .st ?_ sc3
 refine .nil (.wb hnp ?_)
 refine .fin ?_
 refine .next (.sr (.assign (.z (.ret (?_)))))
 exact .ret1 (h1:=.tmp (t:=8) rfl) ⟨_,⟨rfl,rfl⟩,Am.auto⟩
theorem L6 {a c n b2 b5 first many:Nat} {p:Pl} {V0 V:Nat->aa} {D:List Nat} {op:Bool} (h:AreaOk n first many) :
  Spec Tryz.prog 138 #[y7 first many,.func (.func 305) #[] #[.pointer (some ⟨b2,0,none⟩),.pointer (some ⟨b5,0,none⟩)]] [boxA b2 a,intC b5 (many:Int),pt a (alO c p),TR c n V0 V D op]
   fun F v M=>v=.tuple #[]/\M=[boxA b2 a,intC b5 ((many:Int) - cnt V first many),pt a (alO c p),TR c n V0 V D op]++F:=by
 have hfew:=h.few
 have key:=xb (f:=305) (first:=first) (many:=many) (cap:=#[.pointer (some ⟨b2,0,none⟩),.pointer (some ⟨b5,0,none⟩)]) (fun j=>[boxA b2 a,intC b5 ((many:Int) - cnt V first (min (4096 * j) many)),pt a (alO c p),TR c n V0 V D op]) (fun _=>True) (fun _=>False) Tryz.call305 h.few (by have:=h.hi;have:=h.n2;omega) trivial fun j hj _=>?_
 ·have e0:((many:Int) - cnt V first (min (4096 * 0) many))=many:=by
   rw [show min (4096 * 0) many=0 from by omega];rfl
  simp only [e0] at key
  refine Spec.weak key ?_
  rintro F v M ⟨rfl,(⟨j,hj,_,rfl⟩ | ⟨Q,hQ,_⟩)⟩
  ·rw [show min (4096 * j) many=many from by omega]
   exact ⟨_,⟨rfl,rfl⟩,.refl⟩
  ·exact hQ.elim
 ·have hb:=h.blk hj
  have hcl:=Ho V first (min (4096 * j) many)
  have hs:=Qi (a:=a) (c:=c) (b2:=b2) (b5:=b5) (fr:=((4096 * j:Nat):Int)) (mj:=min (many - 4096 * j) 4096) (x:=(many:Int) - cnt V first (min (4096 * j) many)) (p:=p) (V0:=V0) (V:=V) (D:=D) (op:=op) hb.1 hb.2 (by omega) (by omega)
  refine Spec.weak hs ?_
  rintro F v M ⟨rfl,rfl⟩
  refine ⟨_,.inl ⟨rfl,trivial,rfl⟩,?_⟩
  have hc:=y8 V first j (min (many - 4096 * j) 4096) (by omega)
  rw [show 4096 * j+min (many - 4096 * j) 4096=min (4096 * (j+1)) many from by omega] at hc
  rw [show min (4096 * j) many=4096 * j from by omega]
  rw [show ((many:Int) - cnt V first (min (4096 * (j+1)) many))=(many:Int) - cnt V first (4096 * j) - count1 (V (first+j)) (min (many - 4096 * j) 4096) from by omega]
  exact .refl
theorem Hp {a c n first many:Nat} {p:Pl} {V0 V:Nat->aa} {D:List Nat} {op:Bool} (h:AreaOk n first many):Spec Tryz.prog 287 #[.pointer (some ⟨a,0,none⟩),y7 first many] [pt a (alO c p),TR c n V0 V D op] fun F v M=>v=.int .i64 ((many:Int) - cnt V first many)/\M=[pt a (alO c p),TR c n V0 V D op]++F:=by
 refine Spec.intro Tryz.func287 rfl rfl fun B F=>?_
 simp only [Tryz.ntmps287,List.cons_append,List.nil_append,env0,Nat.reduceAdd]
 refine .sr ?_
 refine .box fun b2=>?_
 refine .box fun b3=>?_
 refine .assign (.x ?_)
 refine .fa ?_ At
 refine .ld ?_ sc3
 refine .alloc z3 fun b5=>?_
 refine .st ?_ sc3
 refine .x ?_
 refine .ldA ?_ k9
 refine .makeFuncB ?_
 refine .call (hc:=Tryz.call138) (sp:=L6 (a:=a) (c:=c) (b2:=b2) (b5:=b5) (p:=p) (V0:=V0) (V:=V) (D:=D) (op:=op) h) (h:=?_)
 rintro _ _ ⟨rfl,rfl⟩
 simp only [List.cons_append,List.nil_append,intC]
 refine .x ?_
 refine .ld ?_ sc3
 refine .assign (.z (.ret (?_)))
 exact .ret1 (h1:=.tmp (t:=4) rfl) ⟨_,⟨rfl,rfl⟩,Am.auto⟩
theorem S9 {a c:Nat} {p:Pl} {V0 V:Nat->aa} {D:List Nat} {op:Bool} (h:PlOk p):Spec Tryz.prog 249 #[.pointer (some ⟨a,0,none⟩)] [pt a (alO c p),TR c p.n V0 V D op] fun F v M=>v=.tuple #[.int .i64 ((p.dc:Int) - cnt V p.bm p.dc),.int .i64 ((p.ino:Int) - cnt V p.im p.ino)]/\M=[pt a (alO c p),TR c p.n V0 V D op]++F:=by
 refine Spec.intro Tryz.func249 rfl rfl fun B F=>?_
 simp only [Tryz.ntmps249,List.cons_append,List.nil_append,env0,Nat.reduceAdd]
 refine .sr (.assign (.assign (.z (.seq (.sr (.move ?_))))))
 refine .eqNil ?_ qg
 refine .z ?_
 refine .condF rfl rfl ?_
 refine .skip (.next (.sr (.move (.move ?_))))
 refine .call (hc:=Tryz.call137) (sp:=xa) (h:=?_)
 rintro _ _ ⟨rfl,rfl⟩
 refine .call (hc:=Tryz.call287) (sp:=Hp (n:=p.n) (p:=p) (V0:=V0) (V:=V) (D:=D) (op:=op) h.aB) (h:=?_)
 rintro _ _ ⟨rfl,rfl⟩
 simp only [List.cons_append,List.nil_append]
 refine .move (.move ?_)
 refine .call (hc:=Tryz.call136) (sp:=rf) (h:=?_)
 rintro _ _ ⟨rfl,rfl⟩
 refine .call (hc:=Tryz.call287) (sp:=Hp (n:=p.n) (p:=p) (V0:=V0) (V:=V) (D:=D) (op:=op) h.aI) (h:=?_)
 rintro _ _ ⟨rfl,rfl⟩
 simp only [List.cons_append,List.nil_append]
 refine .assign (.assign (.z (.ret (?_))))
 exact .ret2 (h1:=.tmp (t:=2) rfl) (h2:=.tmp (t:=3) rfl) ⟨_,⟨rfl,rfl⟩,Am.auto⟩
def one0 :aa:=zeros.set 0 1
theorem Bf :one0.length=512:=by unfold one0;rw [List.length_set];exact bg
def fmtV (V:Nat->aa) (first:Nat) (z:aa):Nat->Nat->aa
 | 0=>V
 | j+1=>wr (fmtV V first z j) (first+j) z
def fmtD (D:List Nat) (first:Nat):Nat->List Nat
 | 0=>D
 | j+1=>insD (fmtD D first j) (first+j)
theorem Bg (D:List Nat) (k:Nat):(insD D k).length<=D.length+1:=by unfold insD;split<;>simp
theorem g8 (D:List Nat) (first:Nat):∀ j,(fmtD D first j).length<=D.length+j
 | 0=>Nat.le_refl _
 | j+1=>by
  have:=g8 D first j
  have:=Bg (fmtD D first j) (first+j)
  show (insD _ _).length<=_
  omega
theorem lk (V:Nat->aa) (first:Nat) (z:aa) (k:Nat):∀ j,fmtV V first z j k=if first<=k/\k < first+j then z else V k
 | 0=>by rw [if_neg (by omega)];rfl
 | j+1=>by
  show wr (fmtV V first z j) (first+j) z k=_
  unfold wr
  rw [lk V first z k j]
  by_cases h:k=first+j
  ·rw [if_pos h,if_pos (by omega)]
  ·rw [if_neg h]
   by_cases h2:first<=k/\k < first+j
   ·rw [if_pos h2,if_pos (by omega)]
   ·rw [if_neg h2,if_neg (by omega)]
def fmtZ (p:Pl) (first many:Nat):aa:=if first=p.im/\many=p.ino then one0 else zeros
theorem ez (p:Pl) (first many:Nat):(fmtZ p first many).length=512:=by unfold fmtZ;split;exact Bf;exact bg
def arC (b first many:Nat):HP:=pt b (.cells #[.int .i64 (first:Int),.int .i64 (many:Int)] 205 (0,0))
theorem Hq {a c n b1 b3 b5 blk first many:Nat} {x y:Int} {p:Pl} {V0 V:Nat->aa} {D:List Nat} (h5:245<=blk) (hk:blk < n) (hroom:blk∈D ∨ D.length < 60) :
  Spec Tryz.prog 139 #[.int .i64 (blk:Int),.int .i64 x,.int .i64 y,.pointer (some ⟨b5,0,none⟩),.pointer (some ⟨b1,0,none⟩),.pointer (some ⟨b3,0,none⟩)] [arC b5 first many,boxA b1 a,errC b3 0,pt a (alO c p),TR c n V0 V D true] fun F v M=>v=.bool true/\M=[arC b5 first many,boxA b1 a,errC b3 0,pt a (alO c p),TR c n V0 (wr V blk (fmtZ p first many)) (insD D blk) true]++F:=by
 refine Spec.intro Tryz.func139 rfl rfl fun B F=>?_
 simp only [Tryz.ntmps139,List.cons_append,List.nil_append,env0,Nat.reduceAdd]
 simp only [arC,boxA,errC]
 refine .sr (.assign (.x ?_))
 refine .mkSN 512 z5 so79 (by decide) (by decide) fun b11=>?_
 refine .to (r:=.here) (A':=buf b11 5 512 (bvs zeros)) (fun h hh=>by unfold zeros;rw [bw];exact hh) ?_
 refine .assign (.z (.seq (.seq ?_)))
 refine .dr ([pt b5 (.cells #[.int .i64 (first:Int),.int .i64 (many:Int)] 205 (0,0)),pt b1 (.cells #[.pointer (some ⟨a,0,none⟩)] 129 (0,0))]) [] 4 mixed .autoJ ?_
 refine .tk 0 rfl (.ldA k9) ?_
 refine .tk 1 rfl (.ld lb) ?_
 refine .on 2 rfl fun hnp=>?_
 refine .call (hc:=Tryz.call136) (sp:=rf) (h:=?_)
 rintro _ _ ⟨rfl,rfl⟩
 refine .nil (.wa hnp ?_)
 refine .tk 3 rfl (Qt.eqStr (xs:=[(first:Int),(many:Int)]) (ys:=[(p.im:Int),(p.ino:Int)]) L4) ?_
 refine .fin ?_
 refine .next ?_
 refine .cond rfl (fun hb=>?_) (fun hb=>?_)
 ·have hz:fmtZ p first many=one0:=by
   have:=of_decide_eq_true hb
   simp only [List.cons.injEq,and_true] at this
   unfold fmtZ;rw [if_pos (by omega)]
  refine .region (.move ?_)
  refine .idx1 ?_ so79
  refine .stB (i:=0) ?_ sc5 (by rw [ag,bg];decide)
  refine .to (r:=.here) (A':=buf b11 5 512 (bvs (fmtZ p first many))) (fun h hh=>by rw [hz];unfold one0;rw [r6];exact hh) ?_
  refine .z (.seq (.sr ?_))
  refine .ld ?_ sc34
  refine .eqi (.z ?_)
  refine .condT rfl rfl ?_
  refine .region ?_
  refine .ld ?_ lb
  refine .nilCheck ?_
  refine .fa ?_ la
  refine .ld ?_ dj
  refine .move (.move ?_)
  refine .call (hc:=Tryz.call78) (sp:=nz (n:=n) (V0:=V0) (V:=V) (D:=D) h5 hk Reads.buf (xs:=fmtZ p first many) (ez _ _ _) rfl hroom) (h:=?_)
  rintro _ _ ⟨rfl,rfl⟩
  refine .st ?_ sc34
  refine .x ?_
  refine .ld ?_ sc34
  refine .eqi ?_
  refine .assign (.z (.ret (?_)))
  exact .ret1 (h1:=.tmp (t:=9) rfl) ⟨_,⟨rfl,rfl⟩,Am.auto⟩
 ·have hz:fmtZ p first many=zeros:=by
   have:=of_decide_eq_false hb
   unfold fmtZ;rw [if_neg (fun h=>this (by rw [h.1,h.2]))]
  refine .to (A:=buf b11 5 512 (bvs zeros)) (A':=buf b11 5 512 (bvs (fmtZ p first many))) (fun h hh=>by rw [hz];exact hh) ?_
  refine .skip (.next (.seq (.sr ?_)))
  refine .ld ?_ sc34
  refine .eqi (.z ?_)
  refine .condT rfl rfl ?_
  refine .region ?_
  refine .ld ?_ lb
  refine .nilCheck ?_
  refine .fa ?_ la
  refine .ld ?_ dj
  refine .move (.move ?_)
  refine .call (hc:=Tryz.call78) (sp:=nz (n:=n) (V0:=V0) (V:=V) (D:=D) h5 hk Reads.buf (xs:=fmtZ p first many) (ez _ _ _) rfl hroom) (h:=?_)
  rintro _ _ ⟨rfl,rfl⟩
  refine .st ?_ sc34
  refine .x ?_
  refine .ld ?_ sc34
  refine .eqi ?_
  refine .assign (.z (.ret (?_)))
  exact .ret1 (h1:=.tmp (t:=9) rfl) ⟨_,⟨rfl,rfl⟩,Am.auto⟩
theorem Hr {a c n b1 b3 b5 first many:Nat} {p:Pl} {V0 V:Nat->aa} {D:List Nat} (h:AreaOk n first many) (hroom:D.length+(many+4095) / 4096<=60) :
  Spec Tryz.prog 138 #[y7 first many,.func (.func 139) #[] #[.pointer (some ⟨b5,0,none⟩),.pointer (some ⟨b1,0,none⟩),.pointer (some ⟨b3,0,none⟩)]] [arC b5 first many,boxA b1 a,errC b3 0,pt a (alO c p),TR c n V0 V D true]
   fun F v M=>v=.tuple #[]/\M=[arC b5 first many,boxA b1 a,errC b3 0,pt a (alO c p),TR c n V0 (fmtV V first (fmtZ p first many) ((many+4095) / 4096)) (fmtD D first ((many+4095) / 4096)) true]++F:=by
 have key:=xb (f:=139) (first:=first) (many:=many) (cap:=#[.pointer (some ⟨b5,0,none⟩),.pointer (some ⟨b1,0,none⟩),.pointer (some ⟨b3,0,none⟩)]) (fun j=>[arC b5 first many,boxA b1 a,errC b3 0,pt a (alO c p),TR c n V0 (fmtV V first (fmtZ p first many) j) (fmtD D first j) true]) (fun j=>j<=(many+4095) / 4096) (fun _=>False) Tryz.call139 h.few (by have:=h.hi;have:=h.n2;omega) (Nat.zero_le _) fun j hj _=>?_
 ·refine Spec.weak key ?_
  rintro F v M ⟨rfl,(⟨j,hj,hjl,rfl⟩ | ⟨Q,hQ,_⟩)⟩
  ·rw [show j=(many+4095) / 4096 from by omega]
   exact ⟨_,⟨rfl,rfl⟩,.refl⟩
  ·exact hQ.elim
 ·have hb:=h.blk hj
  have hl:=g8 D first j
  have hs:=Hq (a:=a) (c:=c) (b1:=b1) (b3:=b3) (b5:=b5) (first:=first) (many:=many) (x:=((4096 * j:Nat):Int)) (y:=((min (many - 4096 * j) 4096:Nat):Int)) (p:=p) (V0:=V0) (V:=fmtV V first (fmtZ p first many) j) (D:=fmtD D first j) hb.1 hb.2 (.inr (by omega))
  refine Spec.weak hs ?_
  rintro F v M ⟨rfl,rfl⟩
  exact ⟨_,.inl ⟨rfl,by omega,rfl⟩,.refl⟩
def fmtA (p:Pl) (V:Nat->aa):Nat->aa:=fmtV (fmtV V p.im (fmtZ p p.im p.ino) ((p.ino+4095) / 4096)) p.bm (fmtZ p p.bm p.dc) ((p.dc+4095) / 4096)
def fmtB (p:Pl) (D:List Nat):List Nat:=fmtD (fmtD D p.im ((p.ino+4095) / 4096)) p.bm ((p.dc+4095) / 4096)
theorem L7 {a c:Nat} {p:Pl} {V0 V:Nat->aa} {D:List Nat} (h:PlOk p) (hD:D.length<=1:=by exact Nat.zero_le _):Spec Tryz.prog 80 #[.pointer (some ⟨a,0,none⟩)] [pt a (alO c p),TR c p.n V0 V D true] fun F v M=>v=.int .i64 0/\M=[pt a (alO c p),TR c p.n V0 (fmtA p V) (fmtB p D) true]++F:=by
 refine Spec.intro Tryz.func80 rfl rfl fun B F=>?_
 simp only [Tryz.ntmps80,List.cons_append,List.nil_append,env0,Nat.reduceAdd]
 have h4:=h.i2
 have h6:=h.aB.few
 refine .sr ?_
 refine .box fun b1=>?_
 refine .assign (.z (.seq (.sr ?_)))
 refine .ld ?_ lb
 refine .call (hc:=Tryz.call135) (sp:=Hn (n:=p.n) (V0:=V0) (V:=V) (D:=D) (op:=true)) (h:=?_)
 rintro _ _ ⟨rfl,rfl⟩
 refine .not (.z ?_)
 refine .condF rfl rfl ?_
 refine .skip (.next (.sr ?_))
 refine .alloc z34 fun b3=>?_
 refine .st ?_ sc34
 refine .z (.seq (.seq ?_))
 refine .dr ([boxA b1 a]) [] 7 mixed .autoJ ?_
 refine .tk 0 rfl (.ld lb) ?_
 refine .tk 2 rfl (.ld lb) ?_
 refine .tk 6 rfl .move ?_
 refine .on 1 rfl fun hnp=>?_
 refine .call (hc:=Tryz.call136) (sp:=rf) (h:=?_)
 rintro _ _ ⟨rfl,rfl⟩
 refine .nil (.wa hnp ?_)
 refine .on 3 rfl fun hnp=>?_
 refine .call (hc:=Tryz.call137) (sp:=xa) (h:=?_)
 rintro _ _ ⟨rfl,rfl⟩
 refine .nil (.wa hnp ?_)
 refine .on 4 rfl fun hnp=>?_
 refine .buildS (fun b13=>?_) (Qh _ _ _ _)
 refine .nil (.wa hnp ?_)
 refine .tk 5 rfl (.lenS sl207) ?_
 refine .fin ?_
 refine .next (.block ?_)
 refine .loopN 3 (RC.succ ?_)
 refine .sr ?_
 refine .lss (.z (.seq ?_))
 refine .condT rfl (cB9 (by first|simp;done|simp;omega|omega)) ?_
 refine .skip (.next (.seq (.block (.sr ?_))))
 refine .idx ?_ Sp
 refine .ldAR (i:=0) (us:=[.int .i64 (p.im:Int),.int .i64 (p.ino:Int)]) ?_ k9 Reads.pt rfl (Nat.le_of_ble_eq_true rfl) (R:=pt b13 (.cells #[.int .i64 (p.im:Int),.int .i64 (p.ino:Int),.int .i64 (p.bm:Int),.int .i64 (p.dc:Int)] 205 (0,0)))
 refine .alloc z205 fun b5_0=>?_
 refine .stV ?_ k9
 refine .y ?_
 refine .ldA ?_ k9
 refine .makeFuncB ?_
 refine .call (hc:=Tryz.call138) (sp:=Hr (a:=a) (c:=c) (b1:=b1) (b3:=b3) (b5:=b5_0) (p:=p) (V0:=V0) (V:=V) (D:=D) h.aI (by omega)) (h:=?_)
 rintro _ _ ⟨rfl,rfl⟩
 simp only [List.cons_append,List.nil_append]
 refine .nil (.blockNormal (.next (.region ?_)))
 refine .add ?_
 refine .move (.nil ?_)
 refine .again (RC.succ ?_)
 refine .sr ?_
 refine .lss (.z (.seq ?_))
 refine .condT rfl (cB9 (by first|simp;done|simp;omega|omega)) ?_
 refine .skip (.next (.seq (.block (.sr ?_))))
 refine .idx ?_ Sp
 refine .ldAR (i:=2) (us:=[.int .i64 (p.bm:Int),.int .i64 (p.dc:Int)]) ?_ k9 Reads.pt rfl (Nat.le_of_ble_eq_true rfl) (R:=pt b13 (.cells #[.int .i64 (p.im:Int),.int .i64 (p.ino:Int),.int .i64 (p.bm:Int),.int .i64 (p.dc:Int)] 205 (0,0)))
 refine .alloc z205 fun b5_1=>?_
 refine .stV ?_ k9
 refine .y ?_
 refine .ldA ?_ k9
 refine .makeFuncB ?_
 refine .call (hc:=Tryz.call138) (sp:=Hr (a:=a) (c:=c) (b1:=b1) (b3:=b3) (b5:=b5_1) (p:=p) (V0:=V0) (V:=fmtV V p.im (fmtZ p p.im p.ino) ((p.ino+4095) / 4096)) (D:=fmtD D p.im ((p.ino+4095) / 4096)) h.aB (by have:=g8 D p.im ((p.ino+4095) / 4096);omega)) (h:=?_)
 rintro _ _ ⟨rfl,rfl⟩
 simp only [List.cons_append,List.nil_append]
 refine .nil (.blockNormal (.next (.region ?_)))
 refine .add ?_
 refine .move (.nil ?_)
 refine .again (RC.succ ?_)
 refine .sr ?_
 refine .lss (.z (.seq ?_))
 refine .condF rfl (cB9 (by first|simp;done|simp;omega|omega)) ?_
 refine .exit (.thenExit (.thenExit (.blockExit (?_))))
 refine .next (.sr ?_)
 refine .ld ?_ sc34
 refine .assign (.z (.ret (?_)))
 exact .ret1 (h1:=.tmp (t:=2) rfl) ⟨_,⟨rfl,rfl⟩,Am.auto⟩
theorem Ta (a b c:Int):av Tryz.prog 121 [(0,.int .i64 a),(1,.int .i64 b),(6,.int .i64 c)] #[.int .i64 a,.int .i64 b,.int .i64 0,.int .i64 0,.int .i64 0,.int .i64 0,.int .i64 c]:=fun w=>by kernel_rfl
theorem bdLa (b o:Nat) (m:Int):av Tryz.prog 192 [(0,.pointer (some ⟨b,o,none⟩)),(1,.int .i64 m)] #[.pointer (some ⟨b,o,none⟩),.int .i64 m]:=fun w=>by kernel_rfl
theorem bsLa (b o1 o2 o3 o4:Nat) (m1 m2 m3 m4:Int):bc Tryz.prog 193 4 [(0,.agg #[.pointer (some ⟨b,o1,none⟩),.int .i64 m1]),(1,.agg #[.pointer (some ⟨b,o2,none⟩),.int .i64 m2]),(2,.agg #[.pointer (some ⟨b,o3,none⟩),.int .i64 m3]),(3,.agg #[.pointer (some ⟨b,o4,none⟩),.int .i64 m4])] 192
 #[.pointer (some ⟨b,o1,none⟩),.int .i64 m1,.pointer (some ⟨b,o2,none⟩),.int .i64 m2,.pointer (some ⟨b,o3,none⟩),.int .i64 m3,.pointer (some ⟨b,o4,none⟩),.int .i64 m4]:=fun w=>by kernel_rfl
structure PlIs (p:Pl):Prop where
 n2:p.n<=65536
 i1:1<=p.ino
 i2:p.ino<=4096
 im:p.im=246
 bm:p.bm=246+(p.ino+4095) / 4096
 m1:p.bm+1<=p.tb
 da:p.da=p.tb+(p.ino+7) / 8
 dc:p.da+p.dc=p.n
 d1:1<=p.dc
 enough:p.dc<=4096 * (p.tb - p.bm)
 least:p.tb - p.bm=1 ∨ 4096 * (p.tb - p.bm - 1) < p.dc+1
theorem PlIs.ok {p:Pl} (h:PlIs p):PlOk p:=by
 have h1:=h.im;have h2:=h.bm;have h3:=h.m1;have h4:=h.da;have h5:=h.dc;have h6:=h.enough;have h7:=h.least;have h8:=h.n2;have h9:=h.i1;have h10:=h.i2;have h11:=h.d1
 exact ⟨⟨by omega,by omega,by omega,by omega⟩,⟨by omega,by omega,by omega,by omega⟩,h9,h10,by omega,by omega,by omega,h5,h11⟩
theorem upA (k:Nat):((k:Int)+4096 - 1) / 4096=((k+4095) / 4096:Nat):=by omega
theorem upB (k:Nat):((k:Int)+8 - 1) / 8=((k+7) / 8:Nat):=by omega
theorem Tb {a b:Int} (ha:0<=a/\a<=100000) (hb:1<=b/\b<=100000):Spec Tryz.prog 127 #[.int .i64 a,.int .i64 b] [] fun F v M=>v=.int .i64 ((a+b - 1) / b)/\M=F:=by
 refine Spec.intro Tryz.func127 rfl rfl fun B F=>?_
 simp only [Tryz.ntmps127,List.cons_append,List.nil_append,env0,Nat.reduceAdd]
 refine .sr (.assign (.x (.move (.move ?_))))
 refine .add ?_
 refine .sub ?_
 refine .move ?_
 refine .quo ?_
 refine .assign (.z (.ret (?_)))
 exact .ret1 (h1:=.tmp (t:=4) rfl) ⟨_,⟨rfl,rfl⟩,Am.auto⟩
theorem Hs {p:Pl} (h:PlIs p):Spec Tryz.prog 72 #[.int .i64 (p.n:Int),.int .i64 (p.ino:Int)] [] fun F v M=>v=.tuple #[.agg p.cells,.int .i64 0]/\M=F:=by
 refine Spec.intro Tryz.func72 rfl rfl fun B F=>?_
 simp only [Tryz.ntmps72,List.cons_append,List.nil_append,env0,Nat.reduceAdd]
 have h1:=h.im
 have h2:=h.bm
 have h3:=h.m1
 have h4:=h.da
 have h5:=h.dc
 have h6:=h.enough
 have h7:=h.least
 have h8:=h.n2
 have h9:=h.i1
 have h10:=h.i2
 have h11:=h.d1
 refine .sr ?_
 refine .alloc z121 fun b4=>?_
 refine .assign (.z (.seq (.sr (.move ?_))))
 refine .lss ?_
 refine .move ?_
 refine .cast (d:=16) (u:=.bool false) rfl (cB9 (by first|simp;done|simp;omega|omega)) ?_
 refine .gT (.move (.gT ?_))
 refine .gtr ?_
 refine .pickF (.move ?_)
 refine .cast (d:=20) (u:=.bool false) rfl (cB9 (by first|simp;done|simp;omega|omega)) ?_
 refine .gT (.move (.gT ?_))
 refine .lss ?_
 refine .pickF (.move ?_)
 refine .cast (d:=24) (u:=.bool false) rfl (cB9 (by first|simp;done|simp;omega|omega)) ?_
 refine .gT (.move (.gT ?_))
 refine .gtr ?_
 refine .pickF (.z ?_)
 refine .condF rfl (cB9 (by first|simp;done|simp;omega|omega)) ?_
 refine .skip (.next (.sr (.move ?_)))
 refine .call (hc:=Tryz.call127) (sp:=Tb (by omega) (by omega)) (h:=?_)
 rintro _ _ ⟨rfl,rfl⟩
 refine .move ?_
 refine .call (hc:=Tryz.call127) (sp:=Tb (by omega) (by omega)) (h:=?_)
 rintro _ _ ⟨rfl,rfl⟩
 refine .assign ?_
 refine .cast (d:=6) (u:=.int .i64 (((p.ino+4095) / 4096:Nat):Int)) rfl (cI9 (upA _)) ?_
 refine .assign ?_
 refine .cast (d:=7) (u:=.int .i64 (((p.ino+7) / 8:Nat):Int)) rfl (cI9 (upB _)) ?_
 refine .x (.move ?_)
 refine .sub ?_
 refine .move ?_
 refine .sub ?_
 refine .move ?_
 refine .sub ?_
 refine .assign ?_
 refine .cast (d:=8) (u:=.int .i64 ((p.dc:Int)+(p.tb - p.bm))) rfl (cI9 (by omega)) ?_
 refine .x (.assign (.z (.seq (.block ?_))))
 refine .loopA (σ:=Nat) (fun m=>[(0,.int .i64 (p.n:Int)),(1,.int .i64 (p.ino:Int)),(4,.pointer (some ⟨b4,0,none⟩)),(6,.int .i64 (((p.ino+4095) / 4096:Nat):Int)),(7,.int .i64 (((p.ino+7) / 8:Nat):Int)),(8,.int .i64 ((p.dc:Int)+(p.tb - p.bm))),(9,.int .i64 (m:Int))]) (fun m=>pt b4 (.cells #[.int .i64 0,.int .i64 0,.int .i64 0,.int .i64 0,.int .i64 0,.int .i64 0,.int .i64 0] 121 (0,0)) :: F) (fun m=>1<=m/\m<=p.tb - p.bm) (fun m=>p.tb - p.bm - m) 1 (by omega) ?_
 rintro m hm
 refine .seq (.sr (.move ?_))
 refine .mul ?_
 refine .move (.move ?_)
 refine .sub ?_
 refine .lss (.z ?_)
 refine .cond rfl (fun hb=>?_) (fun hb=>?_)
 ·have hlt:4096 * (m:Int) < (p.dc:Int)+(p.tb - p.bm) - m:=of_decide_eq_true hb
  refine .skip (.next (.block (.region (.move ?_))))
  refine .add ?_
  refine .assign (.nil (.blockNormal ?_))
  refine .cast (d:=9) (u:=.int .i64 ((m+1:Nat):Int)) rfl (cI9 (by omega)) ?_
  exact .back (m+1) (by omega) (by omega)
 ·have hge:¬ 4096 * (m:Int) < (p.dc:Int)+(p.tb - p.bm) - m:=of_decide_eq_false hb
  have hmm:m=p.tb - p.bm:=by omega
  refine .exit (.thenExit (.thenExit (.blockExit (?_))))
  refine .next (.sr (.move (.move (.move (.move ?_)))))
  refine .sub ?_
  refine .cast (d:=51) (u:=.int .i64 (p.dc:Int)) rfl (cI9 (by omega)) ?_
  refine .build ?_ (Ta _ _ _)
  refine .alloc z121 fun b10=>?_
  refine .stV ?_ f9
  refine .z (.seq (.sr ?_))
  refine .fa ?_ wu
  refine .ld ?_ sc3
  refine .lss (.z ?_)
  refine .condF rfl (cB9 (by first|simp;done|simp;omega|omega)) ?_
  refine .skip (.next (.sr (.assign (.z (.seq (.sr ?_))))))
  refine .fa ?_ sf
  refine .move ?_
  refine .build ?_ (bdLa _ _ _)
  refine .fa ?_ Ap
  refine .move ?_
  refine .build ?_ (bdLa _ _ _)
  refine .fa ?_ Aq
  refine .move ?_
  refine .build ?_ (bdLa _ _ _)
  refine .fa ?_ Ar
  refine .fa ?_ wu
  refine .ld ?_ sc3
  refine .build ?_ (bdLa _ _ _)
  refine .buildS (fun b70=>?_) (bsLa _ _ _ _ _ _ _ _ _)
  refine .lenS ?_ sl193
  refine .move (.z (.block ?_))
  refine .loopN 5 (RC.succ ?_)
  refine .sr ?_
  refine .lss (.z (.seq ?_))
  refine .condT rfl (cB9 (by first|simp;done|simp;omega|omega)) ?_
  refine .skip (.next (.seq (.block (.sr ?_))))
  refine .idx ?_ Lc
  refine .ldAR (i:=0) (us:=[.pointer (some ⟨b10,2,none⟩),.int .i64 (((p.ino+4095) / 4096:Nat):Int)]) ?_ qf Reads.pt rfl (Nat.le_of_ble_eq_true rfl) (R:=pt b70 (.cells #[.pointer (some ⟨b10,2,none⟩),.int .i64 (((p.ino+4095) / 4096:Nat):Int),.pointer (some ⟨b10,3,none⟩),.int .i64 (m:Int),.pointer (some ⟨b10,4,none⟩),.int .i64 (((p.ino+7) / 8:Nat):Int),.pointer (some ⟨b10,5,none⟩),.int .i64 (p.dc:Int)] 192 (0,0)))
  refine .alloc z192 fun b13_0=>?_
  refine .stV ?_ qf
  refine .x ?_
  refine .fa ?_ ww
  refine .ld ?_ Lb
  refine .move (.nilCheck ?_)
  refine .st ?_ sc3
  refine .y (.move ?_)
  refine .fa ?_ wx
  refine .ld ?_ sc3
  refine .add ?_
  refine .assign (.nil (.blockNormal (.next (.region ?_))))
  refine .add ?_
  refine .move (.nil ?_)
  refine .again (RC.succ ?_)
  refine .sr ?_
  refine .lss (.z (.seq ?_))
  refine .condT rfl (cB9 (by first|simp;done|simp;omega|omega)) ?_
  refine .skip (.next (.seq (.block (.sr ?_))))
  refine .idx ?_ Lc
  refine .ldAR (i:=2) (us:=[.pointer (some ⟨b10,3,none⟩),.int .i64 (m:Int)]) ?_ qf Reads.pt rfl (Nat.le_of_ble_eq_true rfl) (R:=pt b70 (.cells #[.pointer (some ⟨b10,2,none⟩),.int .i64 (((p.ino+4095) / 4096:Nat):Int),.pointer (some ⟨b10,3,none⟩),.int .i64 (m:Int),.pointer (some ⟨b10,4,none⟩),.int .i64 (((p.ino+7) / 8:Nat):Int),.pointer (some ⟨b10,5,none⟩),.int .i64 (p.dc:Int)] 192 (0,0)))
  refine .alloc z192 fun b13_1=>?_
  refine .stV ?_ qf
  refine .x ?_
  refine .fa ?_ ww
  refine .ld ?_ Lb
  refine .move (.nilCheck ?_)
  refine .st ?_ sc3
  refine .y (.move ?_)
  refine .fa ?_ wx
  refine .ld ?_ sc3
  refine .add ?_
  refine .assign (.nil (.blockNormal (.next (.region ?_))))
  refine .add ?_
  refine .move (.nil ?_)
  refine .again (RC.succ ?_)
  refine .sr ?_
  refine .lss (.z (.seq ?_))
  refine .condT rfl (cB9 (by first|simp;done|simp;omega|omega)) ?_
  refine .skip (.next (.seq (.block (.sr ?_))))
  refine .idx ?_ Lc
  refine .ldAR (i:=4) (us:=[.pointer (some ⟨b10,4,none⟩),.int .i64 (((p.ino+7) / 8:Nat):Int)]) ?_ qf Reads.pt rfl (Nat.le_of_ble_eq_true rfl) (R:=pt b70 (.cells #[.pointer (some ⟨b10,2,none⟩),.int .i64 (((p.ino+4095) / 4096:Nat):Int),.pointer (some ⟨b10,3,none⟩),.int .i64 (m:Int),.pointer (some ⟨b10,4,none⟩),.int .i64 (((p.ino+7) / 8:Nat):Int),.pointer (some ⟨b10,5,none⟩),.int .i64 (p.dc:Int)] 192 (0,0)))
  refine .alloc z192 fun b13_2=>?_
  refine .stV ?_ qf
  refine .x ?_
  refine .fa ?_ ww
  refine .ld ?_ Lb
  refine .move (.nilCheck ?_)
  refine .st ?_ sc3
  refine .y (.move ?_)
  refine .fa ?_ wx
  refine .ld ?_ sc3
  refine .add ?_
  refine .assign (.nil (.blockNormal (.next (.region ?_))))
  refine .add ?_
  refine .move (.nil ?_)
  refine .again (RC.succ ?_)
  refine .sr ?_
  refine .lss (.z (.seq ?_))
  refine .condT rfl (cB9 (by first|simp;done|simp;omega|omega)) ?_
  refine .skip (.next (.seq (.block (.sr ?_))))
  refine .idx ?_ Lc
  refine .ldAR (i:=6) (us:=[.pointer (some ⟨b10,5,none⟩),.int .i64 (p.dc:Int)]) ?_ qf Reads.pt rfl (Nat.le_of_ble_eq_true rfl) (R:=pt b70 (.cells #[.pointer (some ⟨b10,2,none⟩),.int .i64 (((p.ino+4095) / 4096:Nat):Int),.pointer (some ⟨b10,3,none⟩),.int .i64 (m:Int),.pointer (some ⟨b10,4,none⟩),.int .i64 (((p.ino+7) / 8:Nat):Int),.pointer (some ⟨b10,5,none⟩),.int .i64 (p.dc:Int)] 192 (0,0)))
  refine .alloc z192 fun b13_3=>?_
  refine .stV ?_ qf
  refine .x ?_
  refine .fa ?_ ww
  refine .ld ?_ Lb
  refine .move (.nilCheck ?_)
  refine .st ?_ sc3
  refine .y (.move ?_)
  refine .fa ?_ wx
  refine .ld ?_ sc3
  refine .add ?_
  refine .assign (.nil (.blockNormal (.next (.region ?_))))
  refine .add ?_
  refine .move (.nil ?_)
  refine .again (RC.succ ?_)
  refine .sr ?_
  refine .lss (.z (.seq ?_))
  refine .condF rfl (cB9 (by first|simp;done|simp;omega|omega)) ?_
  refine .exit (.thenExit (.thenExit (.blockExit (?_))))
  refine .next (.sr ?_)
  refine .ldA ?_ f9
  refine .stV ?_ f9
  refine .assign (.z (.ret (?_)))
  have hce:(#[.int .i64 (p.n:Int),.int .i64 (p.ino:Int),.int .i64 246,.int .i64 (246+(((p.ino+4095) / 4096:Nat):Int)),.int .i64 (246+(((p.ino+4095) / 4096:Nat):Int)+(m:Int)),.int .i64 (246+(((p.ino+4095) / 4096:Nat):Int)+(m:Int)+(((p.ino+7) / 8:Nat):Int)),.int .i64 (p.dc:Int)]:Array Value)=p.cells:=by
   unfold Pl.cells
   rw [show (p.im:Int)=246 from by omega,show (p.bm:Int)=246+(((p.ino+4095) / 4096:Nat):Int) from by omega,show (p.tb:Int)=246+(((p.ino+4095) / 4096:Nat):Int)+(m:Int) from by omega,show (p.da:Int)=246+(((p.ino+4095) / 4096:Nat):Int)+(m:Int)+(((p.ino+7) / 8:Nat):Int) from by omega]
  refine .to (A:=pt b4 (.cells #[.int .i64 (p.n:Int),.int .i64 (p.ino:Int),.int .i64 246,.int .i64 (246+(((p.ino+4095) / 4096:Nat):Int)),.int .i64 (246+(((p.ino+4095) / 4096:Nat):Int)+(m:Int)),.int .i64 (246+(((p.ino+4095) / 4096:Nat):Int)+(m:Int)+(((p.ino+7) / 8:Nat):Int)),.int .i64 (p.dc:Int)] 121 (0,0))) (A':=pt b4 (.cells p.cells 121 (0,0))) (fun h hh=>by rw [<- hce];exact hh) ?_
  exact .ret2 (h2:=.tmp (t:=5) rfl) ⟨_,⟨rfl,rfl⟩,Am.auto⟩
theorem y9 (xs:aa) (p size:Nat) (big:Bool) (v:Nat) {k:Nat} (hk:k<=p):∀ i,(putN xs p size big v i).take k=xs.take k
 | 0=>rfl
 | i+1=>by
  rw [putN,List.take_set_of_le (by omega)]
  exact y9 xs p size big v hk i
theorem vc {ys:aa} (hy:ys.length=8) (nums:List Nat):∀ i,(jc ys nums i).take 8=ys
 | 0=>by rw [jc,List.take_append_of_le_length (by omega),List.take_of_length_le (by omega)]
 | i+1=>by
  rw [jc,put,y9 _ _ _ _ _ (by omega)]
  exact vc hy nums i
def eu :Nat->aa:=fun _=>zeros
theorem L8 (k:Nat) (i:Nat):kn eu i k=zeros:=by
 induction i with
 | zero=>rfl
 | succ i ih=>show wr (kn eu i) (slotAt i 0) zeros k=zeros;unfold wr;split;rfl;exact ih
theorem pg :zeros.take 8=[0,0,0,0,0,0,0,0]:=by
 unfold zeros
 rw [List.take_replicate]
 rfl
theorem vd :(db eu 0).take 8=dt:=by
 unfold db
 show (s6 dt _).take 8=dt
 exact vc (ys:=dt) rfl _ _
theorem ve {k:Nat} (hk:k≠0):db eu k=zeros:=by
 unfold db
 have hno:¬ (eu 0).take 8=dt:=by
  rw [show (eu 0).take 8=zeros.take 8 from rfl,pg]
  decide
 rw [if_neg hno]
 show wr (kn eu 4) 0 _ k=zeros
 unfold wr
 rw [if_neg hk]
 exact L8 k 4
theorem vf (g i:Nat):s8 g (db eu (slotAt i 0)):=by
 left
 rw [ve (by unfold slotAt;omega),pg]
 decide
def mh (p:Pl):Nat->aa:=fmtA p eu
theorem Cw (k:Nat):tb zeros k=false:=by
 unfold tb zeros
 have:(List.replicate 512 (0:UInt8)).getD (k / 8) 0=0:=by
  rw [List.getD_eq_getElem?_getD,List.getElem?_replicate]
  split<;>rfl
 rw [this]
 exact Nat.zero_testBit _
theorem Qj (k:Nat):tb one0 k=decide (k=0):=by
 unfold tb one0
 by_cases h:k / 8=0
 ·rw [h]
  have:(zeros.set 0 (1:UInt8)).getD 0 0=1:=by
   rw [List.getD_eq_getElem?_getD,List.getElem?_set_self (by rw [bg];decide)]
   rfl
  rw [this]
  have hk:k < 8:=by omega
  rcases Nat.eq_zero_or_pos k with rfl | hp
  ·rfl
  ·rw [Nat.mod_eq_of_lt hk]
   have:(1:UInt8).toNat=2 ^ 0:=rfl
   rw [this,Nat.testBit_two_pow]
   congr 1
   rw [eq_iff_iff]
   constructor<;>intro h<;>omega
 ·have h2:(zeros.set 0 (1:UInt8)).getD (k / 8) 0=zeros.getD (k / 8) 0:=by
   rw [List.getD_eq_getElem?_getD,List.getElem?_set_ne (by omega),List.getD_eq_getElem?_getD]
  rw [h2,show (zeros.getD (k / 8) 0).toNat.testBit (k % 8)=tb zeros k from rfl,Cw]
  symm
  exact decide_eq_false (by omega)
theorem L9 {p:Pl} (h:PlIs p) {k:Nat} (hk:k < p.dc):dig (mh p) p.bm k=false:=by
 have h2:=h.bm;have h3:=h.i1;have h4:=h.im
 unfold dig mh fmtA
 rw [lk,if_pos (by omega)]
 unfold fmtZ
 rw [if_neg (by omega)]
 exact Cw _
theorem Ma {p:Pl} (h:PlIs p) {k:Nat} (hk:k < p.ino):dig (mh p) p.im k=decide (k=0):=by
 have h2:=h.bm;have h3:=h.i2;have h4:=h.im
 unfold dig mh fmtA
 rw [lk,if_neg (by omega),lk,if_pos (by omega)]
 unfold fmtZ
 rw [if_pos ⟨rfl,rfl⟩,Qj]
 congr 1
 rw [eq_iff_iff]
 constructor<;>intro h<;>omega
def Len5 (V:Nat->aa):Prop:=∀ k,(V k).length=512
def setF (f:Nat->Bool) (k:Nat) (on:Bool):Nat->Bool:=fun i=>if i=k then on else f i
theorem Cy {V:Nat->aa} (h:Len5 V) (first k:Nat) (on:Bool):Len5 (setD V first k on):=fun j=>by
 unfold setD wr
 split
 ·rw [k8];exact h _
 ·exact h _
theorem Cz {V:Nat->aa} (h:Len5 V) (first k i:Nat) (on:Bool):dig (setD V first k on) first i=if i=k then on else dig V first i:=by
 unfold dig setD wr
 by_cases hb:i / 4096=k / 4096
 ·rw [hb,if_pos rfl,wn _ _ _ _ (by rw [h];omega)]
  by_cases hik:i=k
  ·subst hik;simp
  ·rw [if_neg (by omega),if_neg hik]
 ·rw [if_neg (by omega),if_neg (fun h=>hb (by rw [h]))]
theorem uq {V:Nat->aa} (first first' k i:Nat) (on:Bool) (h:first'+i / 4096≠first+k / 4096):dig (setD V first k on) first' i=dig V first' i:=by
 unfold dig setD wr
 rw [if_neg h]
theorem na (a:Nat):∀ (m:Nat) (l:List Nat),l.Nodup->(∀ x∈l,a<=x/\x < a+m)->l.length<=m
 | 0,l,_,h=>by
  cases l with
  | nil=>exact Nat.le_refl _
  | cons x l=>have:=h x (List.mem_cons_self ..);omega
 | m+1,l,hn,h=>by
  have h1:=na a m (l.erase (a+m)) (hn.erase _) (fun x hx=>by
   have h2:=(hn.mem_erase_iff).1 hx
   have:=h x h2.2
   omega)
  have h3:=List.length_erase (a:=a+m) (l:=l)
  split at h3<;>omega
variable {a c:Nat} {p:Pl} {bk0 ik0 bk ik:Nat->Bool} {op:Bool}
def cntB (f:Nat->Bool) (n:Nat):Nat:=((List.range n).filter f).length
theorem C0 {V:Nat->aa} {first n:Nat} {f:Nat->Bool} (h:∀ k,k < n->dig V first k=f k):cnt V first n=cntB f n:=by
 unfold cnt cntB
 rw [List.filter_congr (q:=f)]
 intro k hk
 exact h k (List.mem_range.1 hk)
end Go.Proofs.YtmihjfcbofejoaaGreatDoor
end
section
namespace Go.Proofs.YtmihjfcbofejoaaGreatDoor
open Go
def num (xs:aa) (q:Nat):Nat:=(xs.getD q 0).toNat+256 * (xs.getD (q+1) 0).toNat+65536 * (xs.getD (q+2) 0).toNat+16777216 * (xs.getD (q+3) 0).toNat
theorem On (xs:aa) (q:Nat):num xs q < 4294967296:=by
 unfold num
 have h0:=(xs.getD q 0).toNat_lt
 have h1:=(xs.getD (q+1) 0).toNat_lt
 have h2:=(xs.getD (q+2) 0).toNat_lt
 have h3:=(xs.getD (q+3) 0).toNat_lt
 omega
theorem Ht {xs:aa} {q:Nat} (h:q+4<=xs.length):ax (seg xs q 4 false)=num xs q:=by
 have e:(xs.drop q).take 4=[xs.getD q 0,xs.getD (q+1) 0,xs.getD (q+2) 0,xs.getD (q+3) 0]:=by
  rw [List.drop_eq_getElem_cons (show q < xs.length by omega),List.drop_eq_getElem_cons (show q+1 < xs.length by omega),List.drop_eq_getElem_cons (show q+1+1 < xs.length by omega),List.drop_eq_getElem_cons (show q+1+1+1 < xs.length by omega)]
  simp only [List.take_succ_cons,List.take_zero,List.getD_eq_getElem?_getD]
  rw [List.getElem?_eq_getElem (show q < xs.length by omega),List.getElem?_eq_getElem (show q+1 < xs.length by omega),List.getElem?_eq_getElem (show q+2 < xs.length by omega),List.getElem?_eq_getElem (show q+3 < xs.length by omega)]
  rfl
 unfold seg
 simp only [e]
 simp [ax,num]
 omega
def put4 (xs:aa) (q v:Nat):aa:=put xs q 4 false v
theorem bu (xs:aa) (q v:Nat):(put4 xs q v).length=xs.length:=an ..
theorem za {xs:aa} {q v:Nat} (h:q+4<=xs.length) (i:Nat):(put4 xs q v).getD i 0=if i=q then UInt8.ofNat v else if i=q+1 then UInt8.ofNat (v >>> 8) else if i=q+2 then UInt8.ofNat (v >>> 16) else if i=q+3 then UInt8.ofNat (v >>> 24) else xs.getD i 0:=by
 simp only [put4,put,putN,Bool.false_eq_true,if_false,List.getD_eq_getElem?_getD,List.getElem?_set,List.length_set,Nat.mul_zero,Nat.shiftRight_zero,Nat.add_zero]
 repeat' split
 all_goals first | omega | (simp;done) | rfl
theorem xc {xs:aa} {q v:Nat} (h:q+4<=xs.length) (hv:v < 4294967296):num (put4 xs q v) q=v:=by
 unfold num
 simp only [za h]
 simp only [if_true,show q+1≠q from by omega,show q+2≠q from by omega,show q+3≠q from by omega,show q+2≠q+1 from by omega,show q+3≠q+1 from by omega,show q+3≠q+2 from by omega,if_false,UInt8.toNat_ofNat',Nat.shiftRight_eq_div_pow]
 omega
theorem mi {xs:aa} {q v r:Nat} (h:q+4<=xs.length) (hr:r+4<=q ∨ q+4<=r):num (put4 xs q v) r=num xs r:=by
 unfold num
 simp only [za h]
 repeat rw [if_neg (by omega),if_neg (by omega),if_neg (by omega),if_neg (by omega)]
def putL (b:aa) (a:Nat):List Nat->aa
 | []=>b
 | v :: l=>putL (put4 b a v) (a+4) l
theorem nc (b:aa) (a:Nat) (l:List Nat):(putL b a l).length=b.length:=by
 induction l generalizing b a with
 | nil=>rfl
 | cons v l ih=>rw [putL,ih,bu]
theorem Hu (b:aa) (a:Nat) (l:List Nat) (v:Nat):putL b a (l++[v])=put4 (putL b a l) (a+4 * l.length) v:=by
 induction l generalizing b a with
 | nil=>rfl
 | cons u l ih=>rw [List.cons_append,putL,ih,putL,List.length_cons,show a+4+4 * l.length=a+4 * (l.length+1) from by omega]
theorem ml {b:aa} {a r:Nat} {l:List Nat} (h:a+4 * l.length<=b.length) (hr:r+4<=a ∨ a+4 * l.length<=r):num (putL b a l) r=num b r:=by
 induction l generalizing b a with
 | nil=>rfl
 | cons v l ih =>
  rw [List.length_cons] at h hr
  rw [putL,ih (by rw [bu];omega) (by omega),mi (by omega) (by omega)]
theorem Mb {b:aa} {a:Nat} {l:List Nat} (h:a+4 * l.length<=b.length) (hl:∀ v∈l,v < 4294967296) {j:Nat} (hj:j < l.length):num (putL b a l) (a+4 * j)=l[j]:=by
 induction l generalizing b a j with
 | nil=>simp at hj
 | cons v l ih =>
  rw [List.length_cons] at h hj
  rw [putL]
  cases j with
  | zero =>
   rw [ml (by rw [bu];omega) (by omega)]
   exact xc (by omega) (hl v (List.mem_cons_self ..))
  | succ j =>
   rw [show a+4 * (j+1)=a+4+4 * j from by omega,ih (by rw [bu];omega) (fun u hu=>hl u (List.mem_cons_of_mem _ hu)) (by omega)]
   rfl
structure Nd where
 kd:Nat
 sz:Nat
 bl:List Nat
def Nd.nums (x:Nd):List Nat:=x.kd :: x.sz :: x.bl
def ldB (b:aa) (a:Nat):Nd:=⟨num b a,num b (a+4),(List.range 11).map fun k=>num b (a+8+4 * k)⟩
def ldN (p:Pl) (V:Nat->aa) (i:Nat):Nd:=ldB (V (p.tb+i / 8)) (i % 8 * 64)
def svB (b:aa) (a:Nat) (x:Nd):aa:=putL b a x.nums
def svV (p:Pl) (V:Nat->aa) (i:Nat) (x:Nd):Nat->aa:=wr V (p.tb+i / 8) (svB (V (p.tb+i / 8)) (i % 8 * 64) x)
theorem E0 (b:aa) (a:Nat) (x:Nd):(svB b a x).length=b.length:=nc ..
structure Fits (x:Nd):Prop where
 bl:x.bl.length=11
 lt:∀ v∈x.nums,v < 4294967296
theorem rh (b:aa) (a:Nat):Fits (ldB b a):=by
 refine ⟨by simp [ldB],fun v hv=>?_⟩
 unfold Nd.nums ldB at hv
 simp only [List.mem_cons,List.mem_map] at hv
 rcases hv with rfl | rfl | ⟨k,_,rfl⟩<;>exact On _ _
theorem Qk {b:aa} {a:Nat} {x:Nd} (hf:Fits x) (h:a+64<=b.length):ldB (svB b a x) a=x:=by
 obtain ⟨kd,sz,bl⟩:=x
 have hbl:bl.length=11:=hf.bl
 have hn:(Nd.nums ⟨kd,sz,bl⟩).length=13:=by simp [Nd.nums,hbl]
 have key:∀ j (hj:j < (Nd.nums ⟨kd,sz,bl⟩).length),num (svB b a ⟨kd,sz,bl⟩) (a+4 * j)=(Nd.nums ⟨kd,sz,bl⟩)[j]:=fun j hj=>Mb (by rw [hn];omega) hf.lt hj
 unfold ldB
 have k0:=key 0 (by omega)
 have k1:=key 1 (by omega)
 simp only [Nd.nums,Nat.mul_zero,Nat.add_zero,List.getElem_cons_zero,Nat.mul_one,List.getElem_cons_succ] at k0 k1
 rw [k0,k1]
 congr 1
 apply List.ext_getElem
 ·simp [hbl]
 ·intro k h1 h2
  have:=key (k+2) (by rw [hn];omega)
  simp only [Nd.nums,List.getElem_cons_succ] at this
  rw [List.getElem_map,List.getElem_range,show a+8+4 * k=a+4 * (k+2) from by omega,this]
theorem xd {b:aa} {a c:Nat} {x:Nd} (hf:Fits x) (h:a+64<=b.length) (hc:c+64<=a ∨ a+64<=c):ldB (svB b a x) c=ldB b c:=by
 have hn:x.nums.length=13:=by simp [Nd.nums,hf.bl]
 have key:∀ r,c<=r->r+4<=c+64->num (svB b a x) r=num b r:=fun r h1 h2=>ml (by rw [hn];omega) (by rw [hn];omega)
 unfold ldB
 rw [key c (by omega) (by omega),key (c+4) (by omega) (by omega)]
 congr 1
 apply List.map_congr_left
 intro k hk
 have:=List.mem_range.1 hk
 exact key _ (by omega) (by omega)
theorem xe {p:Pl} {V:Nat->aa} (h5:Len5 V) {i:Nat} {x:Nd} (hf:Fits x):ldN p (svV p V i x) i=x:=by
 unfold ldN svV
 rw [show wr V (p.tb+i / 8) (svB (V (p.tb+i / 8)) (i % 8 * 64) x) (p.tb+i / 8)=svB (V (p.tb+i / 8)) (i % 8 * 64) x from if_pos rfl]
 exact Qk hf (by rw [h5];omega)
theorem xf {p:Pl} {V:Nat->aa} (h5:Len5 V) {i j:Nat} (hij:j≠i) {x:Nd} (hf:Fits x):ldN p (svV p V i x) j=ldN p V j:=by
 unfold ldN svV wr
 split
 ·rename_i h
  rw [xd hf (by rw [h5];omega) (by omega)]
  rw [h]
 ·rfl
theorem C1 {V:Nat->aa} (h:Len5 V) (k:Nat) {xs:aa} (hx:xs.length=512):Len5 (wr V k xs):=fun j=>by
 unfold wr
 split
 ·exact hx
 ·exact h j
theorem Bh {p:Pl} {V:Nat->aa} (h5:Len5 V) (i:Nat) (x:Nd):Len5 (svV p V i x):=C1 h5 _ (by rw [E0,h5])
theorem Bi (V:Nat->aa) (k:Nat) (xs:aa):wr V k xs k=xs:=if_pos rfl
theorem em (V:Nat->aa) {k j:Nat} (xs:aa) (h:j≠k):wr V k xs j=V j:=if_neg h
def ptr (V:Nat->aa) (x:Nd) (k:Nat):Nat:=if k=200 then x.bl.getD 10 0 else if k < 10 then x.bl.getD k 0 else num (V (x.bl.getD 10 0)) (4 * (k - 10))
def fb (V:Nat->aa) (x:Nd) (q:Nat):UInt8:=(V (ptr V x (q / 512))).getD (q % 512) 0
def stdS (m:Nat):Nat->Bool:=fun k=>decide (k < m) || (decide (k=200) && decide (10 < m))
theorem stdS_iff {m k:Nat}:stdS m k=true ↔ k < m ∨ (k=200/\10 < m):=by simp [stdS]
abbrev NF :=Nat->Option (Nd×(Nat->Bool))
def updF (nd:NF) (i:Nat) (y:Option (Nd×(Nat->Bool))):NF:=fun j=>if j=i then y else nd j
theorem ay (nd:NF) (i:Nat) (y:Option (Nd×(Nat->Bool))):updF nd i y i=y:=if_pos rfl
theorem a7 (nd:NF) {i j:Nat} (y:Option (Nd×(Nat->Bool))) (h:j≠i):updF nd i y j=nd j:=if_neg h
structure SOk (S:Nat->Bool):Prop where
 code:∀ k,S k=true->k < 138 ∨ k=200
 ind:∀ k,S k=true->10<=k->S 200=true
structure Inv (p:Pl) (V:Nat->aa) (nd:NF):Prop where
 len:Len5 V
 fits:∀ i x S,nd i=some (x,S)->Fits x
 sok:∀ i x S,nd i=some (x,S)->SOk S
 lt:∀ i x S,nd i=some (x,S)->i < p.ino
 rng:∀ i x S k,nd i=some (x,S)->S k=true->p.da<=ptr V x k/\ptr V x k < p.n
 inj:∀ i x S k j y T l,nd i=some (x,S)->S k=true->nd j=some (y,T)->T l=true->ptr V x k=ptr V y l->i=j/\k=l
 map:∀ b,b < p.dc->(dig V p.bm b=true ↔ ∃ i x S k,nd i=some (x,S)/\S k=true/\ptr V x k=p.da+b)
 imap:∀ i,i < p.ino->dig V p.im i=(nd i).isSome
theorem Hv {V V':Nat->aa} {x:Nd} {k:Nat} (h:k=200 ∨ k < 10 ∨ V' (x.bl.getD 10 0)=V (x.bl.getD 10 0)):ptr V' x k=ptr V x k:=by
 unfold ptr
 rcases h with h | h | h
 ·rw [if_pos h,if_pos h]
 ·simp only [show k≠200 from by omega,h,if_true,if_false]
 ·rw [h]
theorem dq (V:Nat->aa) (x:Nd):ptr V x 200=x.bl.getD 10 0:=if_pos rfl
theorem d2 {V V':Nat->aa} {x:Nd} {S:Nat->Bool} (hs:SOk S) (h:S 200=true->V' (x.bl.getD 10 0)=V (x.bl.getD 10 0)) {k:Nat} (hk:S k=true):ptr V' x k=ptr V x k:=by
 refine Hv ?_
 by_cases h1:k < 10
 ·exact .inr (.inl h1)
 ·exact .inr (.inr (h (hs.ind k hk (by omega))))
theorem Inv.add {p:Pl} {V V':Nat->aa} {nd:NF} (h:Inv p V nd) {i b c:Nat} {x x':Nd} {S S':Nat->Bool} (hi:nd i=some (x,S)) (hb:b < p.dc) (hd:dig V p.bm b=false) (hdc:p.da+p.dc=p.n)
  (hf:Fits x') (hS:∀ k,S' k=true ↔ S k=true ∨ k=c) (hc:c < 138 ∨ c=200) (hc2:10<=c->c < 138->S 200=true) (hSc:S c=false)
  (h5:Len5 V') (hm:∀ k,k < p.dc->dig V' p.bm k=if k=b then true else dig V p.bm k) (hi2:∀ k,k < p.ino->dig V' p.im k=dig V p.im k)
  (hp:∀ k,S k=true->ptr V' x' k=ptr V x k) (hpc:ptr V' x' c=p.da+b) (ho:∀ j y T k,j≠i->nd j=some (y,T)->T k=true->ptr V' y k=ptr V y k):Inv p V' (updF nd i (some (x',S'))):=by
 have free:∀ j y T k,nd j=some (y,T)->T k=true->ptr V y k≠p.da+b:=fun j y T k hj hk he=>by
  have:=(h.map b hb).2 ⟨j,y,T,k,hj,hk,he⟩
  rw [hd] at this;cases this
 have get:∀ j y T k,updF nd i (some (x',S')) j=some (y,T)->T k=true->(∃ y0 T0,nd j=some (y0,T0)/\T0 k=true/\ptr V' y k=ptr V y0 k) ∨ (j=i/\k=c/\ptr V' y k=p.da+b):=by
  intro j y T k hj hk
  by_cases hji:j=i
  ·subst hji
   rw [ay] at hj
   cases hj
   rcases (hS k).1 hk with hk | rfl
   ·exact .inl ⟨x,S,hi,hk,hp k hk⟩
   ·exact .inr ⟨rfl,rfl,hpc⟩
  ·rw [a7 _ _ hji] at hj
   exact .inl ⟨y,T,hj,hk,ho j y T k hji hj hk⟩
 refine ⟨h5,?_,?_,?_,?_,?_,?_,?_⟩
 ·intro j y T hj
  by_cases hji:j=i
  ·subst hji;rw [ay] at hj;cases hj;exact hf
  ·rw [a7 _ _ hji] at hj;exact h.fits j y T hj
 ·intro j y T hj
  by_cases hji:j=i
  ·subst hji;rw [ay] at hj;cases hj
   have hs:=h.sok j x S hi
   refine ⟨fun k hk=>?_,fun k hk h10=>?_⟩
   ·rcases (hS k).1 hk with hk | rfl
    ·exact hs.code k hk
    ·exact hc
   ·rcases (hS k).1 hk with hk | rfl
    ·exact (hS 200).2 (.inl (hs.ind k hk h10))
    ·rcases hc with hc | hc
     ·exact (hS 200).2 (.inl (hc2 h10 hc))
     ·exact (hS 200).2 (.inr hc.symm)
  ·rw [a7 _ _ hji] at hj;exact h.sok j y T hj
 ·intro j y T hj
  by_cases hji:j=i
  ·subst hji;exact h.lt j x S hi
  ·rw [a7 _ _ hji] at hj;exact h.lt j y T hj
 ·intro j y T k hj hk
  rcases get j y T k hj hk with ⟨y0,T0,h1,h2,h3⟩ | ⟨_,_,h3⟩
  ·rw [h3];exact h.rng j y0 T0 k h1 h2
  ·rw [h3];omega
 ·intro j y T k j' y' T' k' hj hk hj' hk' he
  rcases get j y T k hj hk with ⟨y0,T0,h1,h2,h3⟩ | ⟨h1,h2,h3⟩<;>rcases get j' y' T' k' hj' hk' with ⟨y0',T0',h1',h2',h3'⟩ | ⟨h1',h2',h3'⟩
  ·rw [h3,h3'] at he;exact h.inj _ _ _ _ _ _ _ _ h1 h2 h1' h2' he
  ·rw [h3,h3'] at he;exact absurd he (free _ _ _ _ h1 h2)
  ·rw [h3,h3'] at he;exact absurd he.symm (free _ _ _ _ h1' h2')
  ·exact ⟨h1.trans h1'.symm,h2.trans h2'.symm⟩
 ·intro k hk
  rw [hm k hk]
  by_cases hkb:k=b
  ·subst hkb
   rw [if_pos rfl]
   exact ⟨fun _=>⟨i,x',S',c,ay ..,(hS c).2 (.inr rfl),hpc⟩,fun _=>rfl⟩
  ·rw [if_neg hkb,h.map k hk]
   constructor
   ·rintro ⟨j,y,T,l,hj,hl,he⟩
    by_cases hji:j=i
    ·subst hji
     rw [hi] at hj;cases hj
     exact ⟨j,x',S',l,ay ..,(hS l).2 (.inl hl),by rw [hp l hl];exact he⟩
    ·exact ⟨j,y,T,l,by rw [a7 _ _ hji];exact hj,hl,by rw [ho j y T l hji hj hl];exact he⟩
   ·rintro ⟨j,y,T,l,hj,hl,he⟩
    rcases get j y T l hj hl with ⟨y0,T0,h1,h2,h3⟩ | ⟨h1,h2,h3⟩
    ·exact ⟨j,y0,T0,l,h1,h2,by rw [<- h3];exact he⟩
    ·exact absurd (h3.symm.trans he) (by omega)
 ·intro k hk
  rw [hi2 k hk,h.imap k hk]
  by_cases hki:k=i
  ·subst hki;rw [ay,hi];rfl
  ·rw [a7 _ _ hki]
theorem Inv.same {p:Pl} {V V':Nat->aa} {nd nd':NF} (h:Inv p V nd) (h5:Len5 V') (hm:∀ k,k < p.dc->dig V' p.bm k=dig V p.bm k) (hi2:∀ k,k < p.ino->dig V' p.im k=dig V p.im k)
  (hn:∀ j,(nd' j=none/\nd j=none) ∨ ∃ y y' T,nd j=some (y,T)/\nd' j=some (y',T)/\Fits y'/\∀ k,T k=true->ptr V' y' k=ptr V y k):Inv p V' nd':=by
 have get:∀ j y T,nd' j=some (y,T)->∃ y0,nd j=some (y0,T)/\Fits y/\∀ k,T k=true->ptr V' y k=ptr V y0 k:=by
  intro j y T hj
  rcases hn j with ⟨h1,_⟩ | ⟨y0,y',T',h1,h2,h3,h4⟩
  ·rw [h1] at hj;cases hj
  ·rw [h2] at hj;cases hj;exact ⟨y0,h1,h3,h4⟩
 refine ⟨h5,?_,?_,?_,?_,?_,?_,?_⟩
 ·intro j y T hj;obtain ⟨y0,h1,h2,h3⟩:=get j y T hj;exact h2
 ·intro j y T hj;obtain ⟨y0,h1,h2,h3⟩:=get j y T hj;exact h.sok _ _ _ h1
 ·intro j y T hj;obtain ⟨y0,h1,h2,h3⟩:=get j y T hj;exact h.lt _ _ _ h1
 ·intro j y T k hj hk;obtain ⟨y0,h1,h2,h3⟩:=get j y T hj;rw [h3 k hk];exact h.rng _ _ _ _ h1 hk
 ·intro j y T k j' y' T' k' hj hk hj' hk' he
  obtain ⟨y0,h1,h2,h3⟩:=get j y T hj
  obtain ⟨y0',h1',h2',h3'⟩:=get j' y' T' hj'
  rw [h3 k hk,h3' k' hk'] at he
  exact h.inj _ _ _ _ _ _ _ _ h1 hk h1' hk' he
 ·intro k hk
  rw [hm k hk,h.map k hk]
  constructor
  ·rintro ⟨j,y,T,l,hj,hl,he⟩
   rcases hn j with ⟨_,h2⟩ | ⟨y0,y',T',h1,h2,h3,h4⟩
   ·rw [h2] at hj;cases hj
   ·rw [h1] at hj;cases hj;exact ⟨j,y',T,l,h2,hl,by rw [h4 l hl];exact he⟩
  ·rintro ⟨j,y,T,l,hj,hl,he⟩
   obtain ⟨y0,h1,h2,h3⟩:=get j y T hj
   exact ⟨j,y0,T,l,h1,hl,by rw [<- h3 l hl];exact he⟩
 ·intro k hk
  rw [hi2 k hk,h.imap k hk]
  rcases hn k with ⟨h1,h2⟩ | ⟨y0,y',T',h1,h2,h3,h4⟩
  ·rw [h1,h2]
  ·rw [h1,h2];rfl
structure Kp (p:Pl) (V V':Nat->aa) (nd:NF) (i:Nat):Prop where
 lo:∀ b,b < p.bm->V' b=V b
 tab:∀ b,p.tb<=b->b < p.da->V' b=V b
 oth:∀ j y T k,j≠i->nd j=some (y,T)->T k=true->V' (ptr V y k)=V (ptr V y k)
theorem Kp.refl (p:Pl) (V:Nat->aa) (nd:NF) (i:Nat):Kp p V V nd i:=⟨fun _ _=>rfl,fun _ _ _=>rfl,fun _ _ _ _ _ _ _=>rfl⟩
theorem Kp.ptr {p:Pl} {V V':Nat->aa} {nd:NF} {i:Nat} (h:Kp p V V' nd i) {j:Nat} {y:Nd} {T:Nat->Bool} {k:Nat} (hs:SOk T) (hji:j≠i) (hj:nd j=some (y,T)) (hk:T k=true):ptr V' y k=ptr V y k :=
 d2 hs (fun h2=>by have:=h.oth j y T 200 hji hj h2;rwa [dq] at this) hk
theorem Kp.trans {p:Pl} {V V' V'':Nat->aa} {nd nd':NF} {i:Nat} (h:Kp p V V' nd i) (h':Kp p V' V'' nd' i) (hs:∀ j y T,nd j=some (y,T)->SOk T) (hn:∀ j,j≠i->nd' j=nd j):Kp p V V'' nd i:=by
 refine ⟨fun b hb=>(h'.lo b hb).trans (h.lo b hb),fun b h1 h2=>(h'.tab b h1 h2).trans (h.tab b h1 h2),fun j y T k hji hj hk=>?_⟩
 have h1:=h.oth j y T k hji hj hk
 have h2:=h.ptr (hs j y T hj) hji hj hk
 have h3:=h'.oth j y T k hji (by rw [hn j hji];exact hj) hk
 rw [h2] at h3
 exact h3.trans h1
theorem Kp.ldN {p:Pl} {V V':Nat->aa} {nd:NF} {i:Nat} (h:Kp p V V' nd i) (ht:p.tb+(p.ino+7) / 8<=p.da) {j:Nat} (hj:j < p.ino):ldN p V' j=ldN p V j:=by
 unfold Go.Proofs.YtmihjfcbofejoaaGreatDoor.ldN
 rw [h.tab _ (by omega) (by omega)]
structure Dk (p:Pl) (D:List Nat):Prop where
 nd:D.Nodup
 lo:∀ x∈D,245<=x
 hi:∀ x∈D,x < p.n
def wt (p:Pl) (D:List Nat):Nat:=(D.filter fun x=>decide (p.tb<=x)).length
def Rm (p:Pl) (D:List Nat) (c:Nat):Prop:=p.n<=304 ∨ (p.tb - 245)+wt p D+c<=60
theorem Dk.nil (p:Pl):Dk p []:=⟨List.nodup_nil,(fun x hx=>by cases hx),(fun x hx=>by cases hx)⟩
theorem Rm.mono {p:Pl} {D D':List Nat} {c c':Nat} (h:Rm p D c) (hw:wt p D'+c'<=wt p D+c):Rm p D' c':=by
 unfold Rm at h ⊢
 rcases h with h | h
 ·exact .inl h
 ·exact .inr (by omega)
theorem Dk.room {p:Pl} {D:List Nat} {c:Nat} (h:Dk p D) (hr:Rm p D (c+1)):Room D:=by
 unfold Room
 rcases hr with hr | hr
 ·have:=na 245 59 D h.nd fun x hx=>⟨h.lo x hx,by have:=h.hi x hx;omega⟩
  omega
 ·have h1:D.length=wt p D+(D.filter fun x=>!decide (p.tb<=x)).length:=by
   unfold wt
   induction D with
   | nil=>rfl
   | cons a D ih =>
    have:=ih ⟨(List.nodup_cons.1 h.nd).2,fun x hx=>h.lo x (List.mem_cons_of_mem _ hx),fun x hx=>h.hi x (List.mem_cons_of_mem _ hx)⟩ (by
     unfold wt at hr ⊢
     simp only [List.filter_cons] at hr
     split at hr
     ·simp only [List.length_cons] at hr;omega
     ·exact hr)
    simp only [List.filter_cons,List.length_cons]
    cases hd:decide (p.tb<=a)
    ·simp;omega
    ·simp;omega
  have h2:=na 245 (p.tb - 245) (D.filter fun x=>!decide (p.tb<=x)) (h.nd.filter _) fun x hx=>by
   rw [List.mem_filter] at hx
   have h3:=h.lo x hx.1
   have h4:¬ p.tb<=x:=by simpa using hx.2
   omega
  omega
theorem Dk.ins {p:Pl} {D:List Nat} (h:Dk p D) {k:Nat} (h1:245<=k) (h2:k < p.n):Dk p (insD D k):=by
 unfold insD
 split
 ·exact h
 ·rename_i hk
  refine ⟨?_,fun x hx=>?_,fun x hx=>?_⟩
  ·rw [List.nodup_append]
   refine ⟨h.nd,by simp,fun a ha b hb=>?_⟩
   simp only [List.mem_singleton] at hb
   subst hb
   exact fun hh=>hk (hh ▸ ha)
  ·rcases List.mem_append.1 hx with hx | hx
   ·exact h.lo x hx
   ·rw [List.mem_singleton] at hx;omega
  ·rcases List.mem_append.1 hx with hx | hx
   ·exact h.hi x hx
   ·rw [List.mem_singleton] at hx;omega
theorem qj (p:Pl) (D:List Nat) (k:Nat):wt p (insD D k)<=wt p D+1/\(k < p.tb->wt p (insD D k)=wt p D)/\(k∈D->wt p (insD D k)=wt p D):=by
 unfold insD wt
 split
 ·rename_i hk;exact ⟨by omega,fun _=>rfl,fun _=>rfl⟩
 ·rename_i hk
  rw [List.filter_append,List.length_append]
  refine ⟨by have:=List.length_filter_le (fun x=>decide (p.tb<=x)) [k];simp only [List.length_singleton] at this;omega,fun h=>?_,fun h=>absurd h hk⟩
  rw [List.filter_cons,if_neg (by simp;omega)]
  rfl
theorem mem_insD {D:List Nat} {k x:Nat}:x∈insD D k ↔ x∈D ∨ x=k:=by
 unfold insD
 split
 ·constructor
  ·exact .inl
  ·rintro (h | rfl)
   ·exact h
   ·assumption
 ·simp
abbrev FM :=Nat->Option (Nat×aa)
def dat (n:Nat):Nat:=(n+511) / 512
def has (n:Nat):Nat:=if dat n<=10 then dat n else dat n+1
def updM (F:FM) (i:Nat) (y:Option (Nat×aa)):FM:=fun j=>if j=i then y else F j
theorem eo (F:FM) (i:Nat) (y:Option (Nat×aa)):updM F i y i=y:=if_pos rfl
theorem e6 (F:FM) {i j:Nat} (y:Option (Nat×aa)) (h:j≠i):updM F i y j=F j:=if_neg h
def hasO :Option (Nat×aa)->Nat
 | none=>0
 | some f=>has f.2.length
def tot (F:FM):Nat->Nat
 | 0=>0
 | n+1=>tot F n+hasO (F n)
theorem Hw (F:FM) (i:Nat) (y:Option (Nat×aa)):∀ n,tot (updM F i y) n+(if i < n then hasO (F i) else 0)=tot F n+(if i < n then hasO y else 0)
 | 0=>rfl
 | n+1=>by
  have ih:=Hw F i y n
  unfold tot
  by_cases h:n=i
  ·subst h
   rw [eo]
   rw [if_neg (by omega),if_neg (by omega)] at ih
   rw [if_pos (by omega),if_pos (by omega)]
   omega
  ·rw [e6 _ _ h]
   by_cases h2:i < n
   ·rw [if_pos h2,if_pos h2] at ih
    rw [if_pos (by omega),if_pos (by omega)]
    omega
   ·rw [if_neg h2,if_neg h2] at ih
    rw [if_neg (by omega),if_neg (by omega)]
    omega
theorem ip (F:FM) {i n:Nat} (h:i < n) (y:Option (Nat×aa)):tot (updM F i y) n+hasO (F i)=tot F n+hasO y:=by
 have:=Hw F i y n
 rwa [if_pos h,if_pos h] at this
def ndOf (p:Pl) (V:Nat->aa) (F:FM):NF:=fun i=>(F i).map fun f=>(ldN p V i,stdS (dat f.2.length))
structure FOk (V:Nat->aa) (x:Nd) (f:Nat×aa):Prop where
 kd:x.kd=f.1
 k12:f.1=1 ∨ f.1=2
 sz:x.sz=f.2.length
 big:f.2.length<=70656
 byt:∀ q,q < f.2.length->fb V x q=f.2.getD q 0
structure Rep (p:Pl) (V:Nat->aa) (F:FM):Prop where
 inv:Inv p V (ndOf p V F)
 ok:∀ i f,F i=some f->FOk V (ldN p V i) f
 cn:cnt V p.bm p.dc=tot F p.ino
 root:(F 0).isSome=true
theorem Rep.lt {p:Pl} {V:Nat->aa} {F:FM} (h:Rep p V F) {i:Nat} {f:Nat×aa} (hi:F i=some f):i < p.ino :=
 h.inv.lt i (ldN p V i) (stdS (dat f.2.length)) (by unfold ndOf;rw [hi];rfl)
theorem Bj {m:Nat} (h:m<=138):SOk (stdS m):=by
 refine ⟨fun k hk=>?_,fun k hk h10=>?_⟩
 ·rcases stdS_iff.1 hk with h1 | ⟨h1,_⟩
  ·exact .inl (by omega)
  ·exact .inr h1
 ·rcases stdS_iff.1 hk with h1 | ⟨h1,h2⟩
  ·exact stdS_iff.2 (.inr ⟨rfl,by omega⟩)
  ·exact stdS_iff.2 (.inr ⟨rfl,h2⟩)
theorem qk {n:Nat} (h:n<=70656):dat n<=138:=by unfold dat;omega
theorem n3 {V V':Nat->aa} {x y:Nd} {q:Nat} (hp:ptr V' y (q / 512)=ptr V x (q / 512)) (hv:V' (ptr V x (q / 512))=V (ptr V x (q / 512))):fb V' y q=fb V x q:=by
 unfold fb
 rw [hp,hv]
theorem Rep.save {p:Pl} {V V':Nat->aa} {F:FM} (h:Rep p V F) (ho:PlOk p) {i:Nat} {x:Nd} {f:Nat×aa} (hi:i < p.ino) (hr:F i≠none ∨ i≠0)
  (hn:Inv p V' (updF (ndOf p V F) i (some (x,stdS (dat f.2.length))))) (hk:∀ j g,j≠i->F j=some g->ldN p V' j=ldN p V j/\∀ k,stdS (dat g.2.length) k=true->V' (ptr V (ldN p V j) k)=V (ptr V (ldN p V j) k))
  (hf:FOk V' x f) (hc:cnt V' p.bm p.dc+hasO (F i)=cnt V p.bm p.dc+has f.2.length):Rep p (svV p V' i x) (updM F i (some f)):=by
 have htab:=ho.tab
 have htbl:=ho.tbl
 have hap:=ho.apart
 have hi2:=ho.i2
 have hfx:Fits x:=hn.fits i x _ (ay ..)
 have hV:∀ b,p.da<=b ∨ b < p.tb->svV p V' i x b=V' b:=fun b hb=>em _ _ (by omega)
 have hld:∀ j,j≠i->ldN p (svV p V' i x) j=ldN p V' j:=fun j hj=>xf hn.len hj hfx
 have hnd:∀ j,ndOf p (svV p V' i x) (updM F i (some f)) j=updF (ndOf p V F) i (some (x,stdS (dat f.2.length))) j:=by
  intro j
  by_cases hj:j=i
  ·subst hj
   rw [ay]
   unfold ndOf
   rw [eo]
   show some (_,_)=_
   rw [xe hn.len hfx]
  ·rw [a7 _ _ hj]
   unfold ndOf
   rw [e6 _ _ hj,hld j hj]
   cases hF:F j with
   | none=>rfl
   | some g=>rw [(hk j g hj hF).1]
 have hdig:∀ k,k < p.dc->dig (svV p V' i x) p.bm k=dig V' p.bm k:=fun k hk'=>by unfold dig;rw [hV _ (by omega)]
 refine ⟨?_,?_,?_,?_⟩
 ·refine hn.same (Bh hn.len i x) hdig (fun k hk'=>by unfold dig;rw [hV _ (by omega)]) fun j=>?_
  rw [hnd j]
  cases hj:updF (ndOf p V F) i (some (x,stdS (dat f.2.length))) j with
  | none=>exact .inl ⟨rfl,rfl⟩
  | some y =>
   obtain ⟨y,T⟩:=y
   refine .inr ⟨y,y,T,rfl,rfl,hn.fits _ _ _ hj,fun k hk'=>d2 (hn.sok _ _ _ hj) (fun h2=>hV _ ?_) hk'⟩
   have:=hn.rng _ _ _ 200 hj h2
   rw [dq] at this
   exact .inl this.1
 ·intro j g hj
  by_cases hji:j=i
  ·subst hji
   rw [eo] at hj
   cases hj
   rw [xe hn.len hfx]
   refine ⟨hf.kd,hf.k12,hf.sz,hf.big,fun q hq=>?_⟩
   rw [<- hf.byt q hq]
   have hS:stdS (dat f.2.length) (q / 512)=true:=stdS_iff.2 (.inl (by unfold dat;omega))
   have hp:ptr (svV p V' j x) x (q / 512)=ptr V' x (q / 512):=d2 (hn.sok _ _ _ (ay ..)) (fun h2=>hV _ (by
    have:=hn.rng _ _ _ 200 (ay ..) h2
    rw [dq] at this
    exact .inl this.1)) hS
   exact n3 hp (hV _ (.inl (hn.rng _ _ _ _ (ay ..) hS).1))
  ·rw [e6 _ _ hji] at hj
   have hj':=h.ok j g hj
   obtain ⟨h1,h2⟩:=hk j g hji hj
   rw [hld j hji,h1]
   refine ⟨hj'.kd,hj'.k12,hj'.sz,hj'.big,fun q hq=>?_⟩
   rw [<- hj'.byt q hq]
   have hS:stdS (dat g.2.length) (q / 512)=true:=stdS_iff.2 (.inl (by unfold dat;omega))
   have hnj:ndOf p V F j=some (ldN p V j,stdS (dat g.2.length)):=by unfold ndOf;rw [hj];rfl
   have hr1:=fun k hk'=>h.inv.rng j (ldN p V j) (stdS (dat g.2.length)) k hnj hk'
   have hp:ptr (svV p V' i x) (ldN p V j) (q / 512)=ptr V (ldN p V j) (q / 512):=d2 (Bj (qk hj'.big)) (fun h3=>by
    have h4:=h2 200 h3
    have h5:=hr1 200 h3
    rw [dq] at h4 h5
    rw [hV _ (.inl h5.1),h4]) hS
   exact n3 hp (by rw [hV _ (.inl (hr1 _ hS).1)];exact h2 _ hS)
 ·have h1:cnt (svV p V' i x) p.bm p.dc=cnt V' p.bm p.dc:=by
   unfold cnt
   rw [List.filter_congr]
   intro k hk'
   exact hdig k (List.mem_range.1 hk')
  have h2:=ip F hi (some f)
  rw [h1]
  have h3:=h.cn
  have:hasO (some f)=has f.2.length:=rfl
  omega
 ·by_cases h0:0=i
  ·rw [<- h0,eo];rfl
  ·rw [e6 _ _ h0];exact h.root
theorem Rep.laid {p:Pl} {V V':Nat->aa} {F:FM} (h:Rep p V F) (ho:PlOk p) {i:Nat} {f:Nat×aa} {bs:aa} (hi:F i=some f) (hl:bs.length=f.2.length)
  (hn:Inv p V' (ndOf p V F)) (hk:Kp p V V' (ndOf p V F) i) (hm:∀ k,k < p.dc->dig V' p.bm k=dig V p.bm k) (hb:∀ q,q < bs.length->fb V' (ldN p V i) q=bs.getD q 0):Rep p V' (updM F i (some (f.1,bs))):=by
 have htab:=ho.tab
 have hld:∀ j,j < p.ino->ldN p V' j=ldN p V j:=fun j hj=>hk.ldN htab hj
 have hnd:∀ j,ndOf p V' (updM F i (some (f.1,bs))) j=ndOf p V F j:=by
  intro j
  by_cases hj:j=i
  ·subst hj
   unfold ndOf
   rw [eo,hi]
   show some (_,_)=some (_,_)
   rw [hld j (h.lt hi),hl]
  ·unfold ndOf
   rw [e6 _ _ hj]
   cases hF:F j with
   | none=>rfl
   | some g =>
    show some (_,_)=some (_,_)
    rw [hld j (h.lt hF)]
 refine ⟨?_,?_,?_,?_⟩
 ·refine hn.same hn.len (fun _ _=>rfl) (fun _ _=>rfl) fun j=>?_
  rw [hnd j]
  cases hj:ndOf p V F j with
  | none=>exact .inl ⟨rfl,rfl⟩
  | some y =>
   obtain ⟨y,T⟩:=y
   exact .inr ⟨y,y,T,rfl,rfl,hn.fits _ _ _ hj,fun _ _=>rfl⟩
 ·intro j g hj
  by_cases hji:j=i
  ·subst hji
   rw [eo] at hj
   cases hj
   have hj':=h.ok j f hi
   rw [hld j (h.lt hi)]
   exact ⟨hj'.kd,hj'.k12,hj'.sz.trans hl.symm,by show bs.length<=70656;rw [hl];exact hj'.big,hb⟩
  ·rw [e6 _ _ hji] at hj
   have hj':=h.ok j g hj
   rw [hld j (h.lt hj)]
   refine ⟨hj'.kd,hj'.k12,hj'.sz,hj'.big,fun q hq=>?_⟩
   rw [<- hj'.byt q hq]
   have hS:stdS (dat g.2.length) (q / 512)=true:=stdS_iff.2 (.inl (by unfold dat;omega))
   have hnj:ndOf p V F j=some (ldN p V j,stdS (dat g.2.length)):=by unfold ndOf;rw [hj];rfl
   exact n3 (hk.ptr (Bj (qk hj'.big)) hji hnj hS) (hk.oth j _ _ _ hji hnj hS)
 ·have h1:cnt V' p.bm p.dc=cnt V p.bm p.dc:=by
   unfold cnt
   rw [List.filter_congr]
   intro k hk'
   exact hm k (List.mem_range.1 hk')
  have h2:=ip F (h.lt hi) (some (f.1,bs))
  rw [h1,h.cn]
  rw [hi] at h2
  have h3:tot (updM F i (some (f.1,bs))) p.ino+has f.2.length=tot F p.ino+has bs.length:=h2
  rw [hl] at h3
  omega
 ·by_cases h0:0=i
  ·rw [<- h0,eo];rfl
  ·rw [e6 _ _ h0];exact h.root
theorem ur :mc Tryz.prog 213 3 11 1=true:=by kernel_rfl
theorem dv :c5 Tryz.prog 215 13=true:=by kernel_rfl
theorem Tc :c5 Tryz.prog 213 11=true:=by kernel_rfl
theorem Hx :mt Tryz.prog 130=true:=by kernel_rfl
theorem dw :ad Tryz.prog 277 0 0=true:=by kernel_rfl
theorem Ql :ad Tryz.prog 277 2 2=true:=by kernel_rfl
theorem Qm (c a:Nat) (v1 v2 v3 v4 v5 v6 v7:Int):av Tryz.prog 277 [(0,.pointer (some ⟨c,0,none⟩)),(1,.pointer (some ⟨a,0,none⟩)),(2,.agg #[.int .i64 v1,.int .i64 v2,.int .i64 v3,.int .i64 v4,.int .i64 v5,.int .i64 v6,.int .i64 v7])] #[.pointer (some ⟨c,0,none⟩),.pointer (some ⟨a,0,none⟩),.int .i64 v1,.int .i64 v2,.int .i64 v3,.int .i64 v4,.int .i64 v5,.int .i64 v6,.int .i64 v7]:=fun w=>by kernel_rfl
def stO (c a:Nat) (p:Pl):Obj:=.cells #[.pointer (some ⟨c,0,none⟩),.pointer (some ⟨a,0,none⟩),.int .i64 (p.n:Int),.int .i64 (p.ino:Int),.int .i64 (p.im:Int),.int .i64 (p.bm:Int),.int .i64 (p.tb:Int),.int .i64 (p.da:Int),.int .i64 (p.dc:Int)] 277 (0,0)
def nI (n:Nat):Value:=.int .i64 (n:Int)
def ndL (x:Nd):List Value:=nI x.kd :: nI x.sz :: x.bl.map nI
def ndV (x:Nd):Value:=.agg (ndL x).toArray
theorem au {x:Nd} (h:x.bl.length=11):(ndL x).length=13:=by simp [ndL,h]
theorem dm (x:Nd):∀ v∈ndL x,Value.single v=true:=by
 intro v hv
 unfold ndL at hv
 simp only [List.mem_cons,List.mem_map] at hv
 rcases hv with rfl | rfl | ⟨k,_,rfl⟩<;>rfl
theorem vg {x:Nd} {k:Nat} (h:k < x.bl.length):(ndL x)[2+k]?=some (nI (x.bl.getD k 0)):=by
 unfold ndL
 rw [show 2+k=k+1+1 from by omega,List.getElem?_cons_succ,List.getElem?_cons_succ,List.getElem?_map,List.getElem?_eq_getElem h,List.getD_eq_getElem?_getD,List.getElem?_eq_getElem h]
 rfl
theorem Bk {x:Nd} {k v:Nat}:(ndL x).set (2+k) (nI v)=ndL ⟨x.kd,x.sz,x.bl.set k v⟩:=by
 unfold ndL
 rw [show 2+k=k+1+1 from by omega,List.set_cons_succ,List.set_cons_succ,List.map_set]
theorem Qn {x:Nd} (h:x.bl.length=11):((ndL x).drop 2).take 11=x.bl.map nI:=by
 unfold ndL
 rw [List.drop_succ_cons,List.drop_succ_cons,List.drop_zero,List.take_of_length_le (by simp [h])]
def nd0 :Nd:=⟨0,0,List.replicate 11 0⟩
theorem zNd :ba Tryz.prog 215=some (ndL nd0).toArray:=by kernel_rfl
theorem Qo (k:Nat):av Tryz.prog 215 [(0,nI k)] (ndL ⟨k,0,List.replicate 11 0⟩).toArray:=fun w=>by kernel_rfl
theorem Oo (a b:Int):av Tryz.prog 159 [(0,.int .i64 a),(1,.int .i64 b)] #[.int .i64 a,.int .i64 b]:=fun w=>by kernel_rfl
theorem inNew {c a:Nat} {p:Pl}:Spec Tryz.prog 131 #[.pointer (some ⟨c,0,none⟩),.pointer (some ⟨a,0,none⟩),.agg p.cells] [] fun F v M=>∃ s,v=.pointer (some ⟨s,0,none⟩)/\M=pt s (stO c a p) :: F:=by
 refine Spec.intro Tryz.func131 rfl rfl fun B F=>?_
 simp only [Tryz.ntmps131,List.cons_append,List.nil_append,env0,Nat.reduceAdd]
 refine .sr ?_
 refine .box fun b5=>?_
 refine .assign (.x (.move (.move ?_)))
 refine .ldA ?_ f9
 refine .build ?_ (Qm _ _ _ _ _ _ _ _ _)
 refine .box fun b11=>?_
 refine .assign (.z (.ret (?_)))
 exact .ret1 (h1:=.tmp (t:=6) rfl) ⟨_,⟨_,rfl,rfl⟩,Am.auto⟩
theorem td {s c a n:Nat} {p:Pl} {V0 V:Nat->aa} {D:List Nat} {op:Bool}:Spec Tryz.prog 140 #[.pointer (some ⟨s,0,none⟩)] [pt s (stO c a p),TR c n V0 V D op] fun F v M=>v=.bool op/\M=[pt s (stO c a p),TR c n V0 V D op]++F:=by
 refine Spec.intro Tryz.func140 rfl rfl fun B F=>?_
 simp only [Tryz.ntmps140,List.cons_append,List.nil_append,env0,Nat.reduceAdd]
 refine .sr (.assign (.x (.move ?_)))
 refine .neNil ?_ Hx
 refine .move (.gT (.move (.gT (.nilCheck (.gT ?_)))))
 refine .fa ?_ dw
 refine .gT ?_
 refine .ld ?_ dj
 refine .gT ?_
 refine .call (hc:=Tryz.call133) (sp:=S6 (n:=n) (V0:=V0) (V:=V) (D:=D) (op:=op)) (h:=?_)
 rintro _ _ ⟨rfl,rfl⟩
 refine .pickT (.assign (.z (.ret (?_))))
 exact .ret1 (h1:=.tmp (t:=2) rfl) ⟨_,⟨rfl,rfl⟩,Am.auto⟩
theorem inPlace {s c a i:Nat} {p:Pl} (hi:i<=100000) (ht:p.tb<=65536):Spec Tryz.prog 211 #[.pointer (some ⟨s,0,none⟩),nI i] [pt s (stO c a p)] fun F v M=>v=.tuple #[nI (p.tb+i / 8),nI (i % 8 * 64)]/\M=pt s (stO c a p) :: F:=by
 refine Spec.intro Tryz.func211 rfl rfl fun B F=>?_
 simp only [Tryz.ntmps211,List.cons_append,List.nil_append,env0,Nat.reduceAdd]
 unfold nI
 refine .sr (.assign (.assign (.x (.move (.nilCheck ?_)))))
 refine .fa ?_ Ql
 refine .fa ?_ Aq
 refine .ld ?_ sc3
 refine .move ?_
 refine .quo ?_
 refine .add ?_
 refine .cast (d:=13) (u:=.int .i64 ((p.tb+i / 8:Nat):Int)) rfl (cI9 (by omega)) ?_
 refine .move ?_
 refine .rem ?_
 refine .mul ?_
 refine .cast (d:=16) (u:=.int .i64 ((i % 8 * 64:Nat):Int)) rfl (cI9 (by omega)) ?_
 refine .assign (.assign (.z (.ret (?_))))
 exact .ret2 (h1:=.tmp (t:=4) rfl) (h2:=.tmp (t:=5) rfl) ⟨_,⟨rfl,rfl⟩,Am.auto⟩
theorem Mc {R:HP} {A:Addr} {n c:Nat} {xs:aa} {q:Nat} (hR:Reads R (some A) (bvs xs)) (hn:xs.length=n) (hl:n<=1073741824) (hq:q+4<=n):Spec Tryz.prog 259 #[.slice (some A) n c,nI q] [R] fun F v M=>v=nI (num xs q)/\M=R :: F:=by
 refine Spec.intro Tryz.func259 rfl rfl fun B F=>?_
 simp only [Tryz.ntmps259,List.cons_append,List.nil_append,env0,Nat.reduceAdd]
 have hlt:=On xs q
 have hq2:q+4<=xs.length:=by omega
 refine .sr (.assign (.x (.move (.move ?_))))
 refine .call (hc:=Tryz.call157) (sp:=lh (p:=(q:Int)) hR hn hl (by omega) (by omega) (by omega)) (h:=?_)
 rintro _ _ ⟨rfl,rfl⟩
 refine .move ?_
 refine .extract (.extract (.assign (.assign (.x (.move ?_)))))
 refine .cvt ?_ cx un3
 refine .cast (d:=14) (u:=nI (num xs q)) rfl (cI9 (by rw [show ((q:Int)).toNat=q from by omega,show (4:Int).toNat=4 from rfl,Ht hq2];exact IntWalk.i64_in _ (by omega))) ?_
 refine .assign (.z (.ret (?_)))
 exact .ret1 (h1:=.tmp (t:=4) rfl) ⟨_,⟨rfl,rfl⟩,Am.auto⟩
theorem Hy {R:HP} {A:Addr} {n c:Nat} {xs:aa} {q v:Nat} (hR:Reads R (some A) (bvs xs)) (hn:xs.length=n) (hl:n<=1073741824) (hq:q+4<=n) (hv:v < 2 ^ 63):Spec Tryz.prog 213 #[.slice (some A) n c,nI q,nI v] [R] fun F u M=>∃ b k,(u=.slice (some ⟨b,0,none⟩) n k/\n<=k/\k<=maxLen)/\M=buf b 5 k (bvs (put4 xs q v)) :: R :: F:=by
 refine Spec.intro Tryz.func213 rfl rfl fun B F=>?_
 simp only [Tryz.ntmps213,List.cons_append,List.nil_append,env0,Nat.reduceAdd]
 refine .sr (.assign (.x (.move (.move (.move ?_)))))
 refine .cvt ?_ un3 cx
 refine .cast (d:=13) (u:=.int .u64 (v:Int)) rfl (cI9 (IntWalk.u64_in _ (by omega))) ?_
 refine .call (hc:=Tryz.call105) (sp:=li (p:=(q:Int)) (v:=v) hR hn hl (by omega) (by omega) (by omega) (by omega)) (h:=?_)
 rintro _ _ ⟨gb,kb,⟨rfl,hk1,hk2⟩,rfl⟩
 rw [show ((q:Int)).toNat=q from by omega,show (4:Int).toNat=4 from rfl]
 refine .move ?_
 refine .extract (.extract ?_)
 refine .assign (.assign (.x (.move (.assign (.z ?_)))))
 refine .ret (?_)
 exact .ret1 (h1:=.tmp (t:=6) rfl) ⟨_,⟨_,_,⟨rfl,hk1,hk2⟩,rfl⟩,Am.auto⟩
theorem zc {k:Nat} (hk:k<=1000000):Spec Tryz.prog 237 #[nI k] [] fun F v M=>v=nI (dat k)/\M=F:=by
 refine Spec.intro Tryz.func237 rfl rfl fun B F=>?_
 simp only [Tryz.ntmps237,List.cons_append,List.nil_append,env0,Nat.reduceAdd]
 unfold nI dat
 refine .sr (.assign (.x (.move ?_)))
 refine .add ?_
 refine .sub ?_
 refine .quo ?_
 refine .cast (d:=6) (u:=.int .i64 (((k+511) / 512:Nat):Int)) rfl (cI9 (by omega)) ?_
 refine .assign (.z (.ret (?_)))
 exact .ret1 (h1:=.tmp (t:=2) rfl) ⟨_,⟨rfl,rfl⟩,Am.auto⟩
theorem Td {k:Nat} (hk:k<=1000000):Spec Tryz.prog 250 #[nI k] [] fun F v M=>v=nI (has k)/\M=F:=by
 refine Spec.intro Tryz.func250 rfl rfl fun B F=>?_
 simp only [Tryz.ntmps250,List.cons_append,List.nil_append,env0,Nat.reduceAdd]
 have hd:dat k<=2000:=by unfold dat;omega
 by_cases h10:dat k<=10
 ·refine .sr (.assign (.z (.seq (.sr (.move ?_)))))
  refine .call (hc:=Tryz.call237) (sp:=zc (k:=k) hk) (h:=?_)
  rintro _ _ ⟨rfl,rfl⟩
  refine .assign (.x (.move ?_))
  refine .leq (.z ?_)
  refine .condT rfl (cB9 (by first|simp;done|simp;omega|omega)) ?_
  refine .sr (.move (.assign (.z ?_)))
  refine .ret (.thenRet (?_))
  exact .ret1 (h1:=.tmp (t:=2) rfl) ⟨_,⟨by unfold has;rw [if_pos h10],rfl⟩,Am.auto⟩
 ·refine .sr (.assign (.z (.seq (.sr (.move ?_)))))
  refine .call (hc:=Tryz.call237) (sp:=zc (k:=k) hk) (h:=?_)
  rintro _ _ ⟨rfl,rfl⟩
  refine .assign (.x (.move ?_))
  refine .leq (.z ?_)
  refine .condF rfl (cB9 (by first|simp;done|simp;omega|omega)) ?_
  refine .skip (.next (.sr (.move ?_)))
  refine .call (hc:=Tryz.call237) (sp:=zc (k:=k) hk) (h:=?_)
  rintro _ _ ⟨rfl,rfl⟩
  refine .add ?_
  refine .cast (d:=11) (u:=nI (has k)) rfl (by unfold has nI;rw [if_neg h10];exact cI9 (by omega)) ?_
  refine .assign (.z (.ret (?_)))
  exact .ret1 (h1:=.tmp (t:=2) rfl) ⟨_,⟨rfl,rfl⟩,Am.auto⟩
theorem Hz {a c:Nat} {i:Int} {p:Pl} {V0 V:Nat->aa} {D:List Nat} {op:Bool} (h:PlOk p):Spec Tryz.prog 258 #[.pointer (some ⟨a,0,none⟩),.int .i64 i] [pt a (alO c p),TR c p.n V0 V D op] fun F v M=>v=.bool (decide (0<=i/\i < p.ino/\(i=0 ∨ dig V p.im i.toNat=true)))/\M=[pt a (alO c p),TR c p.n V0 V D op]++F:=by
 refine Spec.intro Tryz.func258 rfl rfl fun B F=>?_
 simp only [Tryz.ntmps258,List.cons_append,List.nil_append,env0,Nat.reduceAdd]
 have hlo:=h.aI.lo
 have hhi:=h.aI.hi
 have hn2:=h.aI.n2
 have hi2:=h.i2
 have hap:=h.apart
 rcases (show i < 0 ∨ (0<=i/\(p.ino:Int)<=i) ∨ i=0/\i < (p.ino:Int) ∨ (0 < i/\i < (p.ino:Int)) from by omega) with hc | hc | hc | hc
 ·refine .sr (.assign (.z (.seq (.sr (.move ?_)))))
  refine .eqNil ?_ qg
  refine .move (.gT (.move (.gT ?_)))
  refine .lss ?_
  refine .pickF (.move ?_)
  refine .cast (d:=13) (u:=.bool true) rfl (cB9 (by first|simp;done|simp;omega|omega)) ?_
  refine .gF (.gF (.gF (.gF (.gF (.gF ?_)))))
  refine .gF (.pickT (.z ?_))
  refine .condT rfl rfl ?_
  refine .sr (.assign (.z ?_))
  refine .ret (.thenRet (?_))
  exact .ret1 (h1:=.tmp (t:=4) rfl) ⟨_,⟨cB9 (by symm;exact decide_eq_false (by omega)),rfl⟩,Am.auto⟩
 ·refine .sr (.assign (.z (.seq (.sr (.move ?_)))))
  refine .eqNil ?_ qg
  refine .move (.gT (.move (.gT ?_)))
  refine .lss ?_
  refine .pickF (.move ?_)
  refine .cast (d:=13) (u:=.bool false) rfl (cB9 (by first|simp;done|simp;omega|omega)) ?_
  refine .gT (.move (.gT (.move (.gT (.nilCheck ?_)))))
  refine .gT ?_
  refine .fa ?_ iw
  refine .gT ?_
  refine .fa ?_ se
  refine .gT ?_
  refine .ld ?_ sc3
  refine .gT ?_
  refine .geq ?_
  refine .pickF (.z ?_)
  refine .condT rfl (cB9 (by first|simp;done|simp;omega|omega)) ?_
  refine .sr (.assign (.z ?_))
  refine .ret (.thenRet (?_))
  exact .ret1 (h1:=.tmp (t:=4) rfl) ⟨_,⟨cB9 (by symm;exact decide_eq_false (by omega)),rfl⟩,Am.auto⟩
 ·obtain ⟨m,rfl⟩:∃ m:Nat,i=(m:Int):=⟨i.toNat,by omega⟩
  refine .sr (.assign (.z (.seq (.sr (.move ?_)))))
  refine .eqNil ?_ qg
  refine .move (.gT (.move (.gT ?_)))
  refine .lss ?_
  refine .pickF (.move ?_)
  refine .cast (d:=13) (u:=.bool false) rfl (cB9 (by first|simp;done|simp;omega|omega)) ?_
  refine .gT (.move (.gT (.move (.gT (.nilCheck ?_)))))
  refine .gT ?_
  refine .fa ?_ iw
  refine .gT ?_
  refine .fa ?_ se
  refine .gT ?_
  refine .ld ?_ sc3
  refine .gT ?_
  refine .geq ?_
  refine .pickF (.z ?_)
  refine .condF rfl (cB9 (by first|simp;done|simp;omega|omega)) ?_
  refine .skip (.next (.seq ?_))
  refine .dr ([pt a (alO c p)]) [] 18 mixed .autoJ ?_
  refine .tk 0 rfl .move ?_
  refine .tk 1 rfl .nilCheck ?_
  refine .tk 2 rfl (.fa la) ?_
  refine .tk 3 rfl (.ld dj) ?_
  refine .tk 4 rfl .move ?_
  refine .tk 5 rfl .nilCheck ?_
  refine .tk 6 rfl (.fa iw) ?_
  refine .tk 7 rfl (.fa sf) ?_
  refine .tk 8 rfl (.ld sc3) ?_
  refine .tk 9 rfl .move ?_
  refine .tk 10 rfl .quo ?_
  refine .tk 11 rfl ((Qt.add).eq (v':=nI (p.im+m / 4096)) (cI9 (by omega))) ?_
  refine .on 12 rfl fun hnp=>?_
  refine .call (hc:=Tryz.call212) (sp:=pf (n:=p.n) (V0:=V0) (V:=V) (D:=D) (op:=op) (k:=p.im+m / 4096) (by omega) (by omega)) (h:=?_)
  rintro _ _ ⟨gb,q,el,rfl,⟨hq1,hq2,hl5⟩,rfl⟩
  refine .nil (.wa hnp ?_)
  refine .tk 13 rfl .move ?_
  refine .tk 14 rfl .extract ?_
  refine .tk 15 rfl .extract ?_
  refine .tk 16 rfl .assign ?_
  refine .tk 17 rfl .assign ?_
  refine .fin ?_
  refine .next (.sr (.move ?_))
  refine .eqi ?_
  refine .move ?_
  refine .cast (d:=40) (u:=.bool true) rfl (cB9 (by first|simp;done|simp;omega|omega)) ?_
  refine .gF (.gF (.gF (.gF (.pickT ?_))))
  refine .assign (.z (.ret (?_)))
  exact .ret1 (h1:=.tmp (t:=4) rfl) ⟨_,⟨cB9 (by symm;exact decide_eq_true (by omega)),rfl⟩,Am.auto⟩
 ·obtain ⟨m,rfl⟩:∃ m:Nat,i=(m:Int):=⟨i.toNat,by omega⟩
  refine .sr (.assign (.z (.seq (.sr (.move ?_)))))
  refine .eqNil ?_ qg
  refine .move (.gT (.move (.gT ?_)))
  refine .lss ?_
  refine .pickF (.move ?_)
  refine .cast (d:=13) (u:=.bool false) rfl (cB9 (by first|simp;done|simp;omega|omega)) ?_
  refine .gT (.move (.gT (.move (.gT (.nilCheck ?_)))))
  refine .gT ?_
  refine .fa ?_ iw
  refine .gT ?_
  refine .fa ?_ se
  refine .gT ?_
  refine .ld ?_ sc3
  refine .gT ?_
  refine .geq ?_
  refine .pickF (.z ?_)
  refine .condF rfl (cB9 (by first|simp;done|simp;omega|omega)) ?_
  refine .skip (.next (.seq ?_))
  refine .dr ([pt a (alO c p)]) [] 18 mixed .autoJ ?_
  refine .tk 0 rfl .move ?_
  refine .tk 1 rfl .nilCheck ?_
  refine .tk 2 rfl (.fa la) ?_
  refine .tk 3 rfl (.ld dj) ?_
  refine .tk 4 rfl .move ?_
  refine .tk 5 rfl .nilCheck ?_
  refine .tk 6 rfl (.fa iw) ?_
  refine .tk 7 rfl (.fa sf) ?_
  refine .tk 8 rfl (.ld sc3) ?_
  refine .tk 9 rfl .move ?_
  refine .tk 10 rfl .quo ?_
  refine .tk 11 rfl ((Qt.add).eq (v':=nI (p.im+m / 4096)) (cI9 (by omega))) ?_
  refine .on 12 rfl fun hnp=>?_
  refine .call (hc:=Tryz.call212) (sp:=pf (n:=p.n) (V0:=V0) (V:=V) (D:=D) (op:=op) (k:=p.im+m / 4096) (by omega) (by omega)) (h:=?_)
  rintro _ _ ⟨gb,q,el,rfl,⟨hq1,hq2,hl5⟩,rfl⟩
  refine .nil (.wa hnp ?_)
  refine .tk 13 rfl .move ?_
  refine .tk 14 rfl .extract ?_
  refine .tk 15 rfl .extract ?_
  refine .tk 16 rfl .assign ?_
  refine .tk 17 rfl .assign ?_
  refine .fin ?_
  refine .next (.sr (.move ?_))
  refine .eqi ?_
  refine .move ?_
  refine .cast (d:=40) (u:=.bool false) rfl (cB9 (by first|simp;done|simp;omega|omega)) ?_
  refine .gT (.move (.gT (.move (.gT ?_))))
  refine .rem ?_
  refine .gT ?_
  refine .call (hc:=Tryz.call270) (sp:=Ck Reads.buf hl5 (by decide) (k:=(m:Int) % 4096) (by omega)) (h:=?_)
  rintro _ _ ⟨rfl,rfl⟩
  refine .pickF (.assign (.z (.ret (?_))))
  exact .ret1 (h1:=.tmp (t:=4) rfl) ⟨_,⟨cB9 (by rw [show ((m:Int) % 4096).toNat=m % 4096 from by omega,Int.toNat_natCast];show tb (V (p.im+m / 4096)) (m % 4096)=_;rw [show tb (V (p.im+m / 4096)) (m % 4096)=dig V p.im m from rfl];cases dig V p.im m<;>simp<;>omega),rfl⟩,Am.auto⟩
theorem ph :ad Tryz.prog 277 1 1=true:=by kernel_rfl
theorem xg :ad Tryz.prog 215 0 0=true:=by kernel_rfl
theorem d5 :ad Tryz.prog 215 1 1=true:=by kernel_rfl
theorem i0 :ad Tryz.prog 215 2 2=true:=by kernel_rfl
def rng0 (f:Nat->Nat) (k:Nat):List Nat:=(List.range 11).map fun j=>if j < k then f j else 0
theorem Md (f:Nat->Nat):rng0 f 11=(List.range 11).map f:=by
 unfold rng0
 apply List.map_congr_left
 intro j hj
 rw [if_pos (List.mem_range.1 hj)]
theorem Me (f:Nat->Nat) {k:Nat} (h:k < 11):(rng0 f k).set k (f k)=rng0 f (k+1):=by
 apply List.ext_getElem
 ·simp [rng0]
 ·intro j h1 h2
  simp only [rng0,List.getElem_set,List.getElem_map,List.getElem_range]
  by_cases hj:k=j
  ·subst hj;rw [if_pos rfl,if_pos (by omega)]
  ·rw [if_neg hj]
   by_cases h3:j < k
   ·rw [if_pos h3,if_pos (by omega)]
   ·rw [if_neg h3,if_neg (by omega)]
theorem jw (f:Nat->Nat) (k:Nat):(rng0 f k).length=11:=by simp [rng0]
theorem H0 {x:Nd} {k:Nat} (h:k < x.bl.length):x.nums.take (2+(k+1))=x.nums.take (2+k)++[x.bl.getD k 0]:=by
 have:2+k < x.nums.length:=by simp [Nd.nums];omega
 rw [show 2+(k+1)=2+k+1 from by omega,List.take_add_one,List.getElem?_eq_getElem this]
 congr 1
 simp only [Nd.nums,show 2+k=k+1+1 from by omega,List.getElem_cons_succ,Option.toList_some,List.getD_eq_getElem?_getD,List.getElem?_eq_getElem h,Option.getD_some]
theorem zd {s c a:Nat} {p:Pl} {V0 V:Nat->aa} {D:List Nat} {op:Bool} {i:Nat} (ho:PlOk p) (hi:i < p.ino) (hd:i=0 ∨ dig V p.im i=true):Spec Tryz.prog 233 #[.pointer (some ⟨s,0,none⟩),nI i] [pt s (stO c a p),pt a (alO c p),TR c p.n V0 V D op] fun F v M=>v=.tuple #[ndV (ldN p V i),.int .i64 0]/\M=[pt s (stO c a p),pt a (alO c p),TR c p.n V0 V D op]++F:=by
 refine Spec.intro Tryz.func233 rfl rfl fun B F=>?_
 simp only [Tryz.ntmps233,List.cons_append,List.nil_append,env0,Nat.reduceAdd]
 have hi2:=ho.i2
 have htab:=ho.tab
 have hn2:=ho.aB.n2
 have hdat:=ho.dat
 have hlo:=ho.aB.lo
 have htbl:=ho.tbl
 have hblk:245<=p.tb+i / 8/\p.tb+i / 8 < p.n:=by omega
 have hat:i % 8 * 64+64<=512:=by omega
 refine .sr ?_
 refine .allocL zNd rfl fun b4=>?_
 refine .assign (.z (.seq (.sr (.move ?_))))
 refine .eqNil ?_ Hx
 refine .move (.gT (.move (.gT (.nilCheck (.gT ?_)))))
 refine .fa ?_ dw
 refine .gT ?_
 refine .ld ?_ dj
 refine .gT ?_
 refine .eqNil ?_ km
 refine .pickF (.z ?_)
 refine .condF rfl rfl ?_
 refine .skip (.next (.seq (.sr (.move (.nilCheck ?_)))))
 refine .fa ?_ ph
 refine .ld ?_ lb
 refine .move ?_
 refine .call (hc:=Tryz.call258) (sp:=Hz (i:=(i:Int)) (V0:=V0) (V:=V) (D:=D) (op:=op) ho) (h:=?_)
 rintro _ _ ⟨rfl,rfl⟩
 refine .cast (d:=25) (u:=.bool true) rfl (cB9 (decide_eq_true ⟨by omega,by omega,by rcases hd with h | h;exact .inl (by omega);exact .inr h⟩)) ?_
 refine .not (.z ?_)
 refine .condF rfl rfl ?_
 refine .skip (.next (.sr (.move (.move ?_))))
 refine .call (hc:=Tryz.call211) (sp:=inPlace (i:=i) (p:=p) (by omega) (by omega)) (h:=?_)
 rintro _ _ ⟨rfl,rfl⟩
 refine .move ?_
 refine .extract (.extract (.assign (.assign (.x (.move ?_)))))
 refine .nilCheck ?_
 refine .fa ?_ dw
 refine .ld ?_ dj
 refine .move ?_
 refine .call (hc:=Tryz.call212) (sp:=pf (n:=p.n) (V0:=V0) (V:=V) (D:=D) (op:=op) (k:=p.tb+i / 8) hblk.1 hblk.2) (h:=?_)
 rintro _ _ ⟨gb,q,el,rfl,⟨hq1,hq2,hl5⟩,rfl⟩
 refine .move ?_
 refine .extract (.extract ?_)
 refine .assign (.assign (.z (.seq (.sr (.move ?_)))))
 refine .nei (.z ?_)
 refine .condF rfl rfl ?_
 refine .skip (.next (.sr (.move (.move ?_))))
 refine .call (hc:=Tryz.call259) (sp:=Mc (q:=i % 8 * 64) Reads.buf hl5 (by decide) (by omega)) (h:=?_)
 rintro _ _ ⟨rfl,rfl⟩
 refine .move (.move ?_)
 refine .add ?_
 refine .cast (d:=52) (u:=nI (i % 8 * 64+4)) rfl (cI9 (by omega)) ?_
 refine .call (hc:=Tryz.call259) (sp:=Mc (q:=i % 8 * 64+4) Reads.buf hl5 (by decide) (by omega)) (h:=?_)
 rintro _ _ ⟨rfl,rfl⟩
 refine .fa ?_ xg
 refine .stL (xs:=ndL nd0) (i:=0) ?_ sc3 (by decide)
 refine .to (A:=row b4 215 ((ndL nd0).set 0 (nI (num (V (p.tb+i / 8)) (i % 8 * 64))))) (A':=row b4 215 (ndL ⟨num (V (p.tb+i / 8)) (i % 8 * 64),0,List.replicate 11 0⟩)) (fun h hh=>hh) ?_
 refine .fa ?_ d5
 refine .stL (xs:=ndL ⟨num (V (p.tb+i / 8)) (i % 8 * 64),0,List.replicate 11 0⟩) (i:=1) ?_ sc3 (by rw [au rfl];decide)
 refine .to (A:=row b4 215 ((ndL ⟨num (V (p.tb+i / 8)) (i % 8 * 64),0,List.replicate 11 0⟩).set 1 (nI (num (V (p.tb+i / 8)) (i % 8 * 64+4))))) (A':=row b4 215 (ndL ⟨num (V (p.tb+i / 8)) (i % 8 * 64),num (V (p.tb+i / 8)) (i % 8 * 64+4),List.replicate 11 0⟩)) (fun h hh=>hh) ?_
 refine .z (.seq (.sr (.move (.z (.block ?_)))))
 refine .loopA (σ:=Nat) (fun k=>[(0,.pointer (some ⟨s,0,none⟩)),(4,.pointer (some ⟨b4,0,none⟩)),(7,nI (i % 8 * 64)),(8,.slice (some ⟨gb,0,none⟩) 512 q),(56,nI k)]) (fun k=>[row b4 215 (ndL ⟨num (V (p.tb+i / 8)) (i % 8 * 64),num (V (p.tb+i / 8)) (i % 8 * 64+4),rng0 (fun k=>num (V (p.tb+i / 8)) (i % 8 * 64+8+4 * k)) k⟩),buf gb el q (bvs (V (p.tb+i / 8))),pt s (stO c a p),pt a (alO c p),TR c p.n V0 V D op]++F) (fun k=>k<=11) (fun k=>11 - k) 0 (by omega) ?_
 rintro k hk
 refine .sr ?_
 refine .lss (.z (.seq ?_))
 refine .cond rfl (fun hb=>?_) (fun hb=>?_)
 ·have hlt:k < 11:=by have:=of_decide_eq_true hb;omega
  refine .skip (.next (.seq (.block (.sr (.move (.assign (.y (.move (.move ?_)))))))))
  refine .move ?_
  refine .add ?_
  refine .move ?_
  refine .mul ?_
  refine .add ?_
  refine .cast (d:=65) (u:=nI (i % 8 * 64+8+4 * k)) rfl (cI9 (by omega)) ?_
  refine .call (hc:=Tryz.call259) (sp:=Mc (q:=i % 8 * 64+8+4 * k) Reads.buf hl5 (by decide) (by omega)) (h:=?_)
  rintro _ _ ⟨rfl,rfl⟩
  refine .fa ?_ i0
  refine .idxA ?_ ur
  refine .stL ?_ sc3 (show 0+2+((k:Nat):Int).toNat * 1 < (ndL ⟨num (V (p.tb+i / 8)) (i % 8 * 64),num (V (p.tb+i / 8)) (i % 8 * 64+4),rng0 (fun k=>num (V (p.tb+i / 8)) (i % 8 * 64+8+4 * k)) k⟩).length by rw [au (jw _ _)];omega)
  refine .to (A:=row b4 215 ((ndL ⟨num (V (p.tb+i / 8)) (i % 8 * 64),num (V (p.tb+i / 8)) (i % 8 * 64+4),rng0 (fun k=>num (V (p.tb+i / 8)) (i % 8 * 64+8+4 * k)) k⟩).set (0+2+((k:Nat):Int).toNat * 1) (nI (num (V (p.tb+i / 8)) (i % 8 * 64+8+4 * k))))) (A':=row b4 215 (ndL ⟨num (V (p.tb+i / 8)) (i % 8 * 64),num (V (p.tb+i / 8)) (i % 8 * 64+4),rng0 (fun k=>num (V (p.tb+i / 8)) (i % 8 * 64+8+4 * k)) (k+1)⟩)) (fun h hh=>by rw [show 0+2+((k:Nat):Int).toNat * 1=2+k from by omega,Bk,Me (fun k=>num (V (p.tb+i / 8)) (i % 8 * 64+8+4 * k)) hlt] at hh;exact hh) ?_
  refine .nil (.blockNormal (.next (.region ?_)))
  refine .add ?_
  refine .move (.nil ?_)
  refine .cast (d:=56) (u:=nI (k+1)) rfl (cI9 (by omega)) ?_
  exact .back (k+1) (by omega) (by omega)
 ·have hge:¬ k < 11:=by have:=of_decide_eq_false hb;omega
  have hk11:k=11:=by omega
  subst hk11
  refine .exit (.thenExit (.thenExit (.blockExit (?_))))
  refine .next (.sr ?_)
  refine .ldW (xs:=ndL ⟨num (V (p.tb+i / 8)) (i % 8 * 64),num (V (p.tb+i / 8)) (i % 8 * 64+4),rng0 (fun k=>num (V (p.tb+i / 8)) (i % 8 * 64+8+4 * k)) 11⟩) ?_ dv (au (jw _ _))
  refine .stLA (xs:=ndL ⟨num (V (p.tb+i / 8)) (i % 8 * 64),num (V (p.tb+i / 8)) (i % 8 * 64+4),rng0 (fun k=>num (V (p.tb+i / 8)) (i % 8 * 64+8+4 * k)) 11⟩) (us:=ndL ⟨num (V (p.tb+i / 8)) (i % 8 * 64),num (V (p.tb+i / 8)) (i % 8 * 64+4),rng0 (fun k=>num (V (p.tb+i / 8)) (i % 8 * 64+8+4 * k)) 11⟩) ?_ dv (au (jw _ _)) (au (jw _ _)) (dm _)
  refine .assign (.z (.ret (?_)))
  refine .to (A:=row b4 215 (ndL ⟨num (V (p.tb+i / 8)) (i % 8 * 64),num (V (p.tb+i / 8)) (i % 8 * 64+4),rng0 (fun k=>num (V (p.tb+i / 8)) (i % 8 * 64+8+4 * k)) 11⟩)) (A':=row b4 215 (ndL (ldN p V i))) (fun h hh=>by rw [Md] at hh;exact hh) ?_
  exact .ret2 (h1:=RV.aggL rfl dv (by repeat (first | exact .here | apply Rem.there | apply Repl.there | apply Mem.there)) (au (rh _ _).bl)) (h2:=.tmp rfl) ⟨_,⟨rfl,rfl⟩,Am.auto⟩
theorem Mf {s c a:Nat} {p:Pl} {V0 V:Nat->aa} {D:List Nat} {op:Bool} {i:Int} (ho:PlOk p) (hno:¬ (0<=i/\i < p.ino/\(i=0 ∨ dig V p.im i.toNat=true))):Spec Tryz.prog 233 #[.pointer (some ⟨s,0,none⟩),.int .i64 i] [pt s (stO c a p),pt a (alO c p),TR c p.n V0 V D op] fun F v M=>v=.tuple #[ndV nd0,.int .i64 4]/\M=[pt s (stO c a p),pt a (alO c p),TR c p.n V0 V D op]++F:=by
 refine Spec.intro Tryz.func233 rfl rfl fun B F=>?_
 simp only [Tryz.ntmps233,List.cons_append,List.nil_append,env0,Nat.reduceAdd]
 refine .sr ?_
 refine .allocL zNd rfl fun b4=>?_
 refine .assign (.z (.seq (.sr (.move ?_))))
 refine .eqNil ?_ Hx
 refine .move (.gT (.move (.gT (.nilCheck (.gT ?_)))))
 refine .fa ?_ dw
 refine .gT ?_
 refine .ld ?_ dj
 refine .gT ?_
 refine .eqNil ?_ km
 refine .pickF (.z ?_)
 refine .condF rfl rfl ?_
 refine .skip (.next (.seq (.sr (.move (.nilCheck ?_)))))
 refine .fa ?_ ph
 refine .ld ?_ lb
 refine .move ?_
 refine .call (hc:=Tryz.call258) (sp:=Hz (i:=i) (V0:=V0) (V:=V) (D:=D) (op:=op) ho) (h:=?_)
 rintro _ _ ⟨rfl,rfl⟩
 refine .cast (d:=25) (u:=.bool false) rfl (cB9 (decide_eq_false hno)) ?_
 refine .not (.z ?_)
 refine .condT rfl rfl ?_
 refine .sr ?_
 refine .ldW (xs:=ndL nd0) ?_ dv rfl
 refine .stLA (xs:=ndL nd0) (us:=ndL nd0) ?_ dv rfl rfl (dm _)
 refine .assign (.z ?_)
 refine .ret (.thenRet (?_))
 exact .ret2 (h1:=RV.aggL rfl dv (by repeat (first | exact .here | apply Rem.there | apply Repl.there | apply Mem.there)) rfl) (h2:=.tmp rfl) ⟨_,⟨rfl,rfl⟩,Am.auto⟩
theorem C2 {s c a:Nat} {p:Pl} {V0 V:Nat->aa} {D:List Nat} {i:Nat} {x:Nd} (ho:PlOk p) (hi:i < p.ino) (hf:Fits x) (hroom:Room D):Spec Tryz.prog 141 #[.pointer (some ⟨s,0,none⟩),nI i,ndV x] [pt s (stO c a p),TR c p.n V0 V D true] fun F v M=>v=okV/\M=[pt s (stO c a p),TR c p.n V0 (svV p V i x) (insD D (p.tb+i / 8)) true]++F:=by
 refine Spec.intro Tryz.func141 rfl rfl fun B F=>?_
 simp only [Tryz.ntmps141,List.cons_append,List.nil_append,env0,Nat.reduceAdd]
 have hi2:=ho.i2
 have htab:=ho.tab
 have hn2:=ho.aB.n2
 have hdat:=ho.dat
 have hlo:=ho.aB.lo
 have htbl:=ho.tbl
 have hblk:245<=p.tb+i / 8/\p.tb+i / 8 < p.n:=by omega
 have hat:i % 8 * 64+64<=512:=by omega
 have hbl:=hf.bl
 have hkd:x.kd < 2 ^ 63:=by have:=hf.lt x.kd (by simp [Nd.nums]);omega
 have hsz:x.sz < 2 ^ 63:=by have:=hf.lt x.sz (by simp [Nd.nums]);omega
 have hbk:∀ k,k < 11->x.bl.getD k 0 < 2 ^ 63:=by
  intro k hk
  have hk2:k < x.bl.length:=by omega
  have hm:x.bl.getD k 0∈x.nums:=by
   rw [List.getD_eq_getElem?_getD,List.getElem?_eq_getElem hk2]
   unfold Nd.nums
   simp
  have:=hf.lt _ hm
  omega
 refine .sr ?_
 refine .boxL (us:=ndL x) fun b5=>?_
 refine .assign (.x (.move (.move ?_)))
 refine .call (hc:=Tryz.call211) (sp:=inPlace (i:=i) (p:=p) (by omega) (by omega)) (h:=?_)
 rintro _ _ ⟨rfl,rfl⟩
 refine .move ?_
 refine .extract (.extract (.assign (.assign (.x (.move ?_)))))
 refine .nilCheck ?_
 refine .fa ?_ dw
 refine .ld ?_ dj
 refine .move ?_
 refine .call (hc:=Tryz.call212) (sp:=pf (n:=p.n) (V0:=V0) (V:=V) (D:=D) (op:=true) (k:=p.tb+i / 8) hblk.1 hblk.2) (h:=?_)
 rintro _ _ ⟨gb,q,el,rfl,⟨hq1,hq2,hl5⟩,rfl⟩
 refine .move ?_
 refine .extract (.extract ?_)
 refine .assign (.assign (.z (.seq (.sr (.move ?_)))))
 refine .nei (.z ?_)
 refine .condF rfl rfl ?_
 refine .skip (.next (.seq ?_))
 refine .dr ([row b5 215 (ndL x)]) [] 11 mixed .autoJ ?_
 refine .tk 0 rfl .move ?_
 refine .tk 1 rfl .move ?_
 refine .tk 2 rfl (.fa xg) ?_
 refine .tk 3 rfl (Qt.ldL (i:=0) (v:=nI x.kd) sc3 rfl) ?_
 refine .tk 5 rfl .move ?_
 refine .tk 6 rfl ((Qt.add).eq (v':=nI (i % 8 * 64+4)) (cI9 (by omega))) ?_
 refine .tk 7 rfl (.fa d5) ?_
 refine .tk 8 rfl (Qt.ldL (i:=1) (v:=nI x.sz) sc3 rfl) ?_
 refine .on 4 rfl fun hnp=>?_
 refine .call (hc:=Tryz.call213) (sp:=Hy (q:=i % 8 * 64) (v:=x.kd) Reads.buf hl5 (by decide) (by omega) hkd) (h:=?_)
 rintro _ _ ⟨gc,kc,⟨rfl,hc1,hc2⟩,rfl⟩
 refine .nil (.wa hnp ?_)
 refine .on 9 rfl fun hnp=>?_
 refine .call (hc:=Tryz.call213) (sp:=Hy (q:=i % 8 * 64+4) (v:=x.sz) Reads.buf ((bu _ _ _).trans hl5) (by decide) (by omega) hsz) (h:=?_)
 rintro _ _ ⟨gd,kd,⟨rfl,hd1,hd2⟩,rfl⟩
 refine .nil (.wa hnp ?_)
 refine .tk 10 rfl .assign ?_
 refine .fin ?_
 refine .next (.seq (.sr ?_))
 refine .fa ?_ i0
 refine .ldLA ?_ Tc (Qn hbl) (by rw [au hbl];decide)
 refine .move (.z (.block ?_))
 refine .loopA (σ:=Nat×Nat×Nat) (fun y=>[(0,.pointer (some ⟨s,0,none⟩)),(7,nI (p.tb+i / 8)),(8,nI (i % 8 * 64)),(9,.slice (some ⟨y.2.1,0,none⟩) 512 y.2.2),(42,.agg (x.bl.map nI).toArray),(43,nI y.1)]) (fun y=>[buf y.2.1 5 y.2.2 (bvs (putL (V (p.tb+i / 8)) (i % 8 * 64) (x.nums.take (2+y.1)))),pt s (stO c a p),TR c p.n V0 V D true]++F) (fun y=>y.1<=11/\512<=y.2.2/\y.2.2<=maxLen) (fun y=>11 - y.1) (0,gd,kd) ⟨Nat.zero_le _,hd1,hd2⟩ ?_
 rintro ⟨k,ge0,ke0⟩ hk
 obtain ⟨hk,hk1,hk2⟩:=hk
 refine .sr ?_
 refine .lss (.z (.seq ?_))
 refine .cond rfl (fun hb=>?_) (fun hb=>?_)
 ·have hlt:k < 11:=by have:=of_decide_eq_true hb;omega
  have hlen:(putL (V (p.tb+i / 8)) (i % 8 * 64) (x.nums.take (2+k))).length=512:=(nc _ _ _).trans hl5
  refine .skip (.next (.seq (.block (.sr (.move ?_)))))
  refine .ixV (v:=nI (x.bl.getD k 0)) ?_ ur sc3 (by rw [show ((k:Nat):Int).toNat=k from by omega,List.getElem?_toArray,List.getElem?_map,List.getD_eq_getElem?_getD,List.getElem?_eq_getElem (show k < x.bl.length by omega)];rfl)
  refine .assign (.assign (.y (.move (.move ?_))))
  refine .add ?_
  refine .move ?_
  refine .mul ?_
  refine .add ?_
  refine .cast (d:=52) (u:=nI (i % 8 * 64+8+4 * k)) rfl (cI9 (by omega)) ?_
  refine .move ?_
  refine .call (hc:=Tryz.call213) (sp:=Hy (q:=i % 8 * 64+8+4 * k) (v:=x.bl.getD k 0) Reads.buf hlen (by decide) (by omega) (hbk k hlt)) (h:=?_)
  rintro _ _ ⟨ge,ke,⟨rfl,he1,he2⟩,rfl⟩
  refine .assign (.nil (.blockNormal (.next (.region ?_))))
  refine .add ?_
  refine .move (.nil ?_)
  refine .cast (d:=43) (u:=nI (k+1)) rfl (cI9 (by omega)) ?_
  refine .to (A:=buf ge 5 ke (bvs (put4 (putL (V (p.tb+i / 8)) (i % 8 * 64) (x.nums.take (2+k))) (i % 8 * 64+8+4 * k) (x.bl.getD k 0)))) (A':=buf ge 5 ke (bvs (putL (V (p.tb+i / 8)) (i % 8 * 64) (x.nums.take (2+(k+1)))))) (fun h hh=>by rw [H0 (by omega),Hu,show i % 8 * 64+4 * (x.nums.take (2+k)).length=i % 8 * 64+8+4 * k from by simp [Nd.nums,hbl];omega];exact hh) ?_
  exact .back (k+1,ge,ke) ⟨by show k+1<=11;omega,he1,he2⟩ (by show 11 - (k+1) < 11 - k;omega)
 ·have hge:¬ k < 11:=by have:=of_decide_eq_false hb;omega
  have hk11:k=11:=by omega
  subst hk11
  have hall:x.nums.take (2+11)=x.nums:=List.take_of_length_le (by simp [Nd.nums,hbl])
  refine .exit (.thenExit (.thenExit (.blockExit (?_))))
  refine .next (.sr (.move (.nilCheck ?_)))
  refine .fa ?_ dw
  refine .ld ?_ dj
  refine .move (.move ?_)
  refine .call (hc:=Tryz.call78) (sp:=nz (n:=p.n) (V0:=V0) (V:=V) (D:=D) (k:=p.tb+i / 8) hblk.1 hblk.2 Reads.buf ((nc _ _ _).trans hl5) rfl (.inr hroom)) (h:=?_)
  rintro _ _ ⟨rfl,rfl⟩
  refine .assign (.z (.ret (?_)))
  refine .to (A:=TR c p.n V0 (wr V (p.tb+i / 8) (putL (V (p.tb+i / 8)) (i % 8 * 64) (x.nums.take (2+11)))) (insD D (p.tb+i / 8)) true) (A':=TR c p.n V0 (svV p V i x) (insD D (p.tb+i / 8)) true) (fun h hh=>by rw [hall] at hh;exact hh) ?_
  exact .ret1 (h1:=.tmp (t:=6) rfl) ⟨_,⟨rfl,rfl⟩,Am.auto⟩
theorem ze {f:Nat->Bool} {b:Nat} (h:f b=false):∀ n,cntB (setF f b true) n=cntB f n+(if b < n then 1 else 0)
 | 0=>rfl
 | n+1=>by
  have ih:=ze h n
  unfold cntB at ih ⊢
  rw [List.range_succ,List.filter_append,List.filter_append,List.length_append,List.length_append,ih]
  by_cases hb:b=n
  ·subst hb
   have h1:setF f b true b=true:=if_pos rfl
   simp [h,h1]
  ·have h1:setF f b true n=f n:=if_neg (fun hh=>hb hh.symm)
   have h2:[n].filter (setF f b true)=[n].filter f:=by simp only [List.filter_cons,List.filter_nil,h1]
   rw [h2]
   by_cases h2:b < n
   ·rw [if_pos h2,if_pos (by omega)];omega
   ·rw [if_neg h2,if_neg (by omega)];omega
theorem n4 {V V':Nat->aa} {first n b:Nat} (hb:b < n) (h0:dig V first b=false) (h:∀ k,k < n->dig V' first k=if k=b then true else dig V first k):cnt V' first n=cnt V first n+1:=by
 have h1:=ze (f:=fun k=>dig V first k) h0 n
 rw [if_pos hb] at h1
 rw [C0 (f:=setF (fun k=>dig V first k) b true) (fun k hk=>h k hk),h1]
 rfl
theorem xh {V V':Nat->aa} {first n:Nat} (h:∀ k,k < n->dig V' first k=dig V first k):cnt V' first n=cnt V first n :=
 C0 (f:=fun k=>dig V first k) h
theorem Mg {V:Nat->aa} {first n:Nat} (h:∀ k,k < n->dig V first k=true):cnt V first n=n:=by
 unfold cnt
 rw [List.filter_eq_self.2 (fun k hk=>h k (List.mem_range.1 hk)),List.length_range]
theorem E1 (i:Nat):zeros.getD i 0=0:=by
 unfold zeros
 rw [List.getD_eq_getElem?_getD,List.getElem?_replicate]
 split<;>rfl
def frV (p:Pl) (V:Nat->aa) (b:Nat):Nat->aa:=wr (setD V p.bm b true) (p.da+b) zeros
theorem H1 (p:Pl) (V:Nat->aa) (b:Nat):frV p V b (p.da+b)=zeros:=Bi ..
theorem lm {p:Pl} {V:Nat->aa} {b v:Nat} (h1:v≠p.da+b) (h2:v≠p.bm+b / 4096):frV p V b v=V v:=by
 unfold frV
 rw [em _ _ h1]
 exact em _ _ h2
theorem H2 {p:Pl} {V:Nat->aa} (h:Len5 V) (b:Nat):Len5 (frV p V b):=C1 (Cy h _ _ _) _ bg
theorem PlOk.mapAt {p:Pl} (ho:PlOk p) {b:Nat} (hb:b < p.dc):p.bm+b / 4096 < p.tb:=by
 have:=ho.tbl;omega
theorem PlOk.tbda {p:Pl} (ho:PlOk p):p.tb+1<=p.da:=by
 have:=ho.tab;have:=ho.i1;omega
theorem pi {p:Pl} {V:Nat->aa} (ho:PlOk p) (h:Len5 V) {b k:Nat} (hb:b < p.dc) (hk:k < p.dc):dig (frV p V b) p.bm k=if k=b then true else dig V p.bm k:=by
 have h1:=ho.mapAt hk
 have h2:=ho.tbda
 rw [<- Cz h]
 unfold dig frV
 rw [em _ _ (by omega)]
theorem C3 {p:Pl} {V:Nat->aa} (ho:PlOk p) {b k:Nat} (hb:b < p.dc) (hk:k < p.ino):dig (frV p V b) p.im k=dig V p.im k:=by
 have h1:=ho.mapAt hb
 have h2:=ho.tbda
 have h3:=ho.apart
 have h4:=ho.i2
 unfold dig
 rw [lm (by omega) (by omega)]
theorem Inv.free {p:Pl} {V:Nat->aa} {nd:NF} (h:Inv p V nd) {b:Nat} (hb:b < p.dc) (hd:dig V p.bm b=false) {j:Nat} {y:Nd} {T:Nat->Bool} {k:Nat} (hj:nd j=some (y,T)) (hk:T k=true):ptr V y k≠p.da+b:=fun he=>by
 have:=(h.map b hb).2 ⟨j,y,T,k,hj,hk,he⟩
 rw [hd] at this;cases this
theorem ri {p:Pl} {V:Nat->aa} {nd:NF} (h:Inv p V nd) (ho:PlOk p) {b:Nat} (hb:b < p.dc) (hd:dig V p.bm b=false) {j:Nat} {y:Nd} {T:Nat->Bool} {k:Nat} (hj:nd j=some (y,T)) (hk:T k=true):frV p V b (ptr V y k)=V (ptr V y k):=by
 have h1:=ho.mapAt hb
 have h2:=ho.tbda
 have h3:=h.rng j y T k hj hk
 exact lm (h.free hb hd hj hk) (by omega)
theorem H3 {p:Pl} {V:Nat->aa} {nd:NF} (h:Inv p V nd) (ho:PlOk p) {b:Nat} (hb:b < p.dc) (hd:dig V p.bm b=false) {j:Nat} {y:Nd} {T:Nat->Bool} {k:Nat} (hj:nd j=some (y,T)) (hk:T k=true):ptr (frV p V b) y k=ptr V y k :=
 d2 (h.sok j y T hj) (fun h2=>by have:=ri h ho hb hd hj h2;rwa [dq] at this) hk
theorem H4 {p:Pl} {V:Nat->aa} {nd:NF} (h:Inv p V nd) (ho:PlOk p) {b:Nat} (hb:b < p.dc) (hd:dig V p.bm b=false) (i:Nat):Kp p V (frV p V b) nd i:=by
 have h1:=ho.mapAt hb
 have h2:=ho.tbda
 exact ⟨fun v hv=>lm (by omega) (by omega),fun v hv1 hv2=>lm (by omega) (by omega),fun j y T k _ hj hk=>ri h ho hb hd hj hk⟩
theorem d3 {l:List Nat} {k v:Nat} (h:k < l.length):(l.set k v).getD k 0=v:=by
 rw [List.getD_eq_getElem?_getD,List.getElem?_set_self h];rfl
theorem i3 {l:List Nat} {k j v:Nat} (h:k≠j):(l.set k v).getD j 0=l.getD j 0:=by
 rw [List.getD_eq_getElem?_getD,List.getElem?_set_ne h,List.getD_eq_getElem?_getD]
theorem Fits.set {x:Nd} (h:Fits x) {k v:Nat} (hv:v < 4294967296):Fits ⟨x.kd,x.sz,x.bl.set k v⟩:=by
 refine ⟨by simp [h.bl],fun u hu=>?_⟩
 simp only [Nd.nums,List.mem_cons] at hu
 rcases hu with rfl | rfl | hu
 ·exact h.lt _ (by simp [Nd.nums])
 ·exact h.lt _ (by simp [Nd.nums])
 ·rcases List.mem_or_eq_of_mem_set hu with hu | rfl
  ·exact h.lt _ (by simp [Nd.nums,hu])
  ·exact hv
structure Stp (p:Pl) (V V':Nat->aa) (nd:NF) (i:Nat) (x x':Nd) (S S':Nat->Bool):Prop where
 inv:Inv p V' (updF nd i (some (x',S')))
 kp:Kp p V V' nd i
 kd:x'.kd=x.kd
 sz:x'.sz=x.sz
 ptrs:∀ l,S l=true->S' l=true->ptr V' x' l=ptr V x l
 byt:∀ l,l≠200->S l=true->S' l=true->V' (ptr V x l)=V (ptr V x l)
theorem zf (nd:NF) (i:Nat) (y z:Option (Nd×(Nat->Bool))):updF (updF nd i y) i z=updF nd i z:=by
 funext j
 unfold updF
 split<;>rfl
theorem Stp.trans {p:Pl} {V V1 V2:Nat->aa} {nd:NF} {i:Nat} {x x1 x2:Nd} {S S1 S2:Nat->Bool} (h0:Inv p V nd) (h:Stp p V V1 nd i x x1 S S1) (h':Stp p V1 V2 (updF nd i (some (x1,S1))) i x1 x2 S1 S2)
  (hS:∀ l,S l=true->S2 l=true->S1 l=true):Stp p V V2 nd i x x2 S S2:=by
 refine ⟨?_,?_,h'.kd.trans h.kd,h'.sz.trans h.sz,fun l h1 h2=>?_,fun l hl h1 h2=>?_⟩
 ·have:=h'.inv
  rwa [zf] at this
 ·exact h.kp.trans h'.kp h0.sok (fun j hj=>a7 _ _ hj)
 ·rw [h'.ptrs l (hS l h1 h2) h2,h.ptrs l h1 (hS l h1 h2)]
 ·have h3:=h'.byt l hl (hS l h1 h2) h2
  rw [h.ptrs l h1 (hS l h1 h2)] at h3
  rw [h3,h.byt l hl h1 (hS l h1 h2)]
theorem Stp.fb {p:Pl} {V V':Nat->aa} {nd:NF} {i:Nat} {x x':Nd} {S S':Nat->Bool} (h:Stp p V V' nd i x x' S S') {q:Nat} (hq:q / 512 < 138) (h1:S (q / 512)=true) (h2:S' (q / 512)=true):fb V' x' q=fb V x q :=
 n3 (h.ptrs _ h1 h2) (h.byt _ (by omega) h1 h2)
theorem vh {p:Pl} {V:Nat->aa} {nd:NF} (h:Inv p V nd) (ho:PlOk p) {i b k c:Nat} {x:Nd} {S S':Nat->Bool} (hi:nd i=some (x,S)) (hb:b < p.dc) (hd:dig V p.bm b=false)
  (hk:(k < 10/\c=k) ∨ (k=10/\c=200/\∀ l,S l=true->l < 10)) (hS:∀ l,S' l=true ↔ S l=true ∨ l=c) (hSc:S c=false) :
  Stp p V (frV p V b) nd i x ⟨x.kd,x.sz,x.bl.set k (p.da+b)⟩ S S'/\ptr (frV p V b) ⟨x.kd,x.sz,x.bl.set k (p.da+b)⟩ c=p.da+b:=by
 have hfx:=h.fits i x S hi
 have hdat:=ho.dat
 have hn2:=ho.aB.n2
 have hbl:=hfx.bl
 have hp:∀ l,S l=true->ptr (frV p V b) ⟨x.kd,x.sz,x.bl.set k (p.da+b)⟩ l=ptr V x l:=by
  intro l hl
  have h1:=H3 h ho hb hd hi hl
  rw [<- h1]
  have hlc:l≠c:=fun hh=>by rw [hh,hSc] at hl;cases hl
  unfold ptr
  rcases hk with ⟨hk,rfl⟩ | ⟨rfl,rfl,hall⟩
  ·simp only [i3 (show c≠10 by omega),i3 (Ne.symm hlc)]
  ·have:=hall l hl
   simp only [if_neg hlc,if_pos this,i3 (show 10≠l by omega)]
 have hpc:ptr (frV p V b) ⟨x.kd,x.sz,x.bl.set k (p.da+b)⟩ c=p.da+b:=by
  unfold ptr
  rcases hk with ⟨hk,rfl⟩ | ⟨rfl,rfl,hall⟩
  ·rw [if_neg (by omega),if_pos hk]
   exact d3 (by omega)
  ·rw [if_pos rfl]
   exact d3 (by omega)
 refine ⟨⟨?_,H4 h ho hb hd i,rfl,rfl,fun l h1 h2=>hp l h1,fun l _ h1 h2=>ri h ho hb hd hi h1⟩,hpc⟩
 refine h.add hi hb hd hdat (hfx.set (by omega)) hS (by rcases hk with ⟨hk,rfl⟩ | ⟨_,rfl,_⟩;exact .inl (by omega);exact .inr rfl) (by rcases hk with ⟨hk,rfl⟩ | ⟨_,rfl,_⟩<;>omega) hSc (H2 h.len b)
  (fun l hl=>pi ho h.len hb hl) (fun l hl=>C3 ho hb hl) hp hpc (fun j y T l hji hj hl=>H3 h ho hb hd hj hl)
def inV (p:Pl) (V:Nat->aa) (x:Nd) (b k:Nat):Nat->aa:=wr (frV p V b) (x.bl.getD 10 0) (put4 (frV p V b (x.bl.getD 10 0)) (4 * (k - 10)) (p.da+b))
theorem H5 {p:Pl} {V:Nat->aa} {nd:NF} (h:Inv p V nd) (ho:PlOk p) {i b k:Nat} {x:Nd} {S S':Nat->Bool} (hi:nd i=some (x,S)) (hb:b < p.dc) (hd:dig V p.bm b=false)
  (hk:10<=k) (hk2:k < 138) (h200:S 200=true) (hS:∀ l,S' l=true ↔ S l=true ∨ l=k) (hSc:S k=false) :
  Stp p V (inV p V x b k) nd i x x S S'/\ptr (inV p V x b k) x k=p.da+b/\inV p V x b k (p.da+b)=zeros:=by
 have hfx:=h.fits i x S hi
 have hdat:=ho.dat
 have hn2:=ho.aB.n2
 have hm:=ho.mapAt hb
 have htd:=ho.tbda
 have hir:=h.rng i x S 200 hi h200
 have hif:=h.free hb hd hi h200
 rw [dq] at hir hif
 have hlen:=H2 (p:=p) h.len b
 have hoth:∀ v,v≠x.bl.getD 10 0->inV p V x b k v=frV p V b v:=fun v hv=>em _ _ hv
 have hind:inV p V x b k (x.bl.getD 10 0)=put4 (frV p V b (x.bl.getD 10 0)) (4 * (k - 10)) (p.da+b):=Bi ..
 have hindV:frV p V b (x.bl.getD 10 0)=V (x.bl.getD 10 0):=lm hif (by omega)
 have h4:4 * (k - 10)+4<=(frV p V b (x.bl.getD 10 0)).length:=by rw [hlen];omega
 have hpc:ptr (inV p V x b k) x k=p.da+b:=by
  unfold ptr
  rw [if_neg (by omega),if_neg (by omega),hind]
  exact xc h4 (by omega)
 have hp:∀ l,S l=true->ptr (inV p V x b k) x l=ptr V x l:=by
  intro l hl
  have hlk:l≠k:=fun hh=>by rw [hh,hSc] at hl;cases hl
  unfold ptr
  by_cases h1:l=200
  ·rw [if_pos h1,if_pos h1]
  ·rw [if_neg h1,if_neg h1]
   by_cases h2:l < 10
   ·rw [if_pos h2,if_pos h2]
   ·rw [if_neg h2,if_neg h2,hind,mi h4 (by omega),hindV]
 have hne:∀ j y T l,nd j=some (y,T)->T l=true->(j≠i ∨ l≠200)->ptr V y l≠x.bl.getD 10 0:=fun j y T l hj hl hne he=>by
  have:=h.inj j y T l i x S 200 hj hl hi h200 (by rw [dq];exact he)
  rcases hne with h1 | h1
  ·exact h1 this.1
  ·exact h1 this.2
 have hheld:∀ j y T l,nd j=some (y,T)->T l=true->(j≠i ∨ l≠200)->inV p V x b k (ptr V y l)=V (ptr V y l):=fun j y T l hj hl hh=>by
  rw [hoth _ (hne j y T l hj hl hh)]
  exact ri h ho hb hd hj hl
 refine ⟨⟨?_,⟨fun v hv=>?_,fun v h1 h2=>?_,fun j y T l hji hj hl=>hheld j y T l hj hl (.inl hji)⟩,rfl,rfl,fun l h1 _=>hp l h1,fun l h0 h1 h2=>hheld i x S l hi h1 (.inr h0)⟩,hpc,?_⟩
 ·refine h.add hi hb hd hdat hfx hS (.inl hk2) (fun _ _=>h200) hSc (C1 hlen _ (by rw [bu];exact hlen _)) (fun l hl=>?_) (fun l hl=>?_) hp hpc (fun j y T l hji hj hl=>?_)
  ·have:=ho.mapAt hl
   rw [<- pi ho h.len hb hl]
   unfold dig
   rw [hoth _ (by omega)]
  ·have h1:=ho.apart
   have h2:=ho.i2
   have h3:=ho.tbl
   refine Eq.trans ?_ (C3 ho hb hl)
   unfold dig
   rw [hoth _ (by omega)]
  ·exact d2 (h.sok j y T hj) (fun h2=>by have:=hheld j y T 200 hj h2 (.inl hji);rwa [dq] at this) hl
 ·have h3:=ho.tbl
  rw [hoth _ (by omega)]
  exact (H4 h ho hb hd i).lo v hv
 ·rw [hoth _ (by omega)]
  exact (H4 h ho hb hd i).tab v h1 h2
 ·rw [hoth _ (Ne.symm hif)]
  exact H1 p V b
theorem H6 {p:Pl} {V:Nat->aa} {nd:NF} (h:Inv p V nd) (ho:PlOk p) {i b k:Nat} {x:Nd} {S:Nat->Bool} (hi:nd i=some (x,S)) (hb:b < p.dc) (h200:S 200=true) {l:Nat} (hl:l < p.dc):dig (inV p V x b k) p.bm l=if l=b then true else dig V p.bm l:=by
 have hir:=h.rng i x S 200 hi h200
 rw [dq] at hir
 have h1:=ho.mapAt hl
 have h2:=ho.tbda
 rw [<- pi ho h.len hb hl]
 unfold dig inV
 rw [em _ _ (by omega)]
def mo (xs:aa) (off:Nat) (ys:aa):aa:=xs.take off++ys++xs.drop (off+ys.length)
theorem jx {xs ys:aa} {off:Nat} (h:off+ys.length<=xs.length):(mo xs off ys).length=xs.length:=by
 unfold mo
 simp only [List.length_append,List.length_take,List.length_drop]
 omega
theorem te {xs ys:aa} {off:Nat} (h:off+ys.length<=xs.length) (i:Nat):(mo xs off ys).getD i 0=if off<=i/\i < off+ys.length then ys.getD (i - off) 0 else xs.getD i 0:=by
 unfold mo
 simp only [List.getD_eq_getElem?_getD,List.getElem?_append,List.length_append,List.length_take,List.getElem?_take,List.getElem?_drop]
 have h1:min off xs.length=off:=by omega
 rw [h1]
 by_cases c1:i < off
 ·rw [if_pos (by omega),if_pos c1,if_pos c1,if_neg (by omega)]
 ·by_cases c2:i < off+ys.length
  ·rw [if_pos c2,if_neg c1,if_pos ⟨by omega,c2⟩]
  ·rw [if_neg c2,if_neg (by omega),show off+ys.length+(i - (off+ys.length))=i from by omega]
structure LayR (p:Pl) (V V':Nat->aa) (x:Nd) (lo hi:Nat) (bs:aa):Prop where
 len:Len5 V'
 oth:∀ b,(∀ k,lo / 512<=k->512 * k < hi->ptr V x k≠b)->V' b=V b
 byt:∀ k,k < 138->∀ j,j < 512->(∀ l,lo / 512<=l->512 * l < hi->ptr V x l=ptr V x k->l=k)->(V' (ptr V x k)).getD j 0=if lo<=512 * k+j/\512 * k+j < hi then bs.getD (512 * k+j - lo) 0 else (V (ptr V x k)).getD j 0
theorem LayR.nil {p:Pl} {V:Nat->aa} (h:Len5 V) (x:Nd) (lo:Nat) (bs:aa):LayR p V V x lo lo bs :=
 ⟨h,fun _ _=>rfl,fun k hk j hj _=>by rw [if_neg (by omega)]⟩
theorem LayR.step {p:Pl} {V V1:Nat->aa} {x:Nd} {lo hi m:Nat} {bs:aa} (h:LayR p V V1 x lo hi bs) (hlo:lo<=hi) (hm:0 < m) (hm2:hi % 512+m<=512) (hb:hi - lo+m<=bs.length) (hk:hi / 512 < 138)
  (hinj:∀ k l,lo / 512<=k->512 * k < hi+m->lo / 512<=l->512 * l < hi+m->ptr V x k=ptr V x l->k=l) :
  LayR p V (wr V1 (ptr V x (hi / 512)) (mo (V1 (ptr V x (hi / 512))) (hi % 512) ((bs.drop (hi - lo)).take m))) x lo (hi+m) bs:=by
 have hlen:((bs.drop (hi - lo)).take m).length=m:=by rw [List.length_take,List.length_drop];omega
 have hsp:hi % 512+((bs.drop (hi - lo)).take m).length<=(V1 (ptr V x (hi / 512))).length:=by rw [hlen,h.len];exact hm2
 refine ⟨C1 h.len _ (by rw [jx hsp,h.len]),fun b hbk=>?_,fun k hk' j hj hu=>?_⟩
 ·rw [em _ _ (Ne.symm (hbk (hi / 512) (by omega) (by omega)))]
  exact h.oth b fun k h1 h2=>hbk k h1 (by omega)
 ·have hu':=fun l h1 (h2:512 * l < hi)=>hu l h1 (by omega)
  by_cases he:ptr V x k=ptr V x (hi / 512)
  ·have hke:=hu (hi / 512) (by omega) (by omega) he.symm
   subst hke
   rw [Bi,te hsp,hlen]
   have:=h.byt (hi / 512) hk j hj hu'
   by_cases c:hi % 512<=j/\j < hi % 512+m
   ·rw [if_pos c,if_pos ⟨by omega,by omega⟩]
    rw [List.getD_eq_getElem?_getD,List.getElem?_take,if_pos (by omega),List.getElem?_drop,List.getD_eq_getElem?_getD]
    congr 2
    omega
   ·rw [if_neg c,this]
    by_cases c2:lo<=512 * (hi / 512)+j/\512 * (hi / 512)+j < hi
    ·rw [if_pos c2,if_pos ⟨c2.1,by omega⟩]
    ·rw [if_neg c2,if_neg (by omega)]
  ·rw [em _ _ he,h.byt k hk' j hj hu']
   have hkne:k≠hi / 512:=fun hh=>he (by rw [hh])
   by_cases c2:lo<=512 * k+j/\512 * k+j < hi
   ·rw [if_pos c2,if_pos ⟨c2.1,by omega⟩]
   ·rw [if_neg c2,if_neg (by omega)]
theorem LayR.stp {p:Pl} {V V':Nat->aa} {nd:NF} {i lo hi:Nat} {x:Nd} {S:Nat->Bool} {bs:aa} (h:LayR p V V' x lo hi bs) (hv:Inv p V nd) (ho:PlOk p) (hi':nd i=some (x,S)) (hlo:lo<=hi)
  (hS:∀ k,lo / 512<=k->512 * k < hi->S k=true/\k < 138) :
  Inv p V' nd/\Kp p V V' nd i/\(∀ k,k < p.dc->dig V' p.bm k=dig V p.bm k)/\(∀ k,S k=true->ptr V' x k=ptr V x k) ∧
   ∀ q,q / 512 < 138->S (q / 512)=true->fb V' x q=if lo<=q/\q < hi then bs.getD (q - lo) 0 else fb V x q:=by
 have htd:=ho.tbda
 have hlow:∀ b,b < p.da->V' b=V b:=fun b hb=>h.oth b fun k h1 h2 he=>by
  have:=hv.rng i x S k hi' (hS k h1 h2).1
  omega
 have hheld:∀ j y T l,nd j=some (y,T)->T l=true->(j≠i ∨ l=200)->V' (ptr V y l)=V (ptr V y l):=fun j y T l hj hl hne=>h.oth _ fun k h1 h2 he=>by
  have:=hv.inj i x S k j y T l hi' (hS k h1 h2).1 hj hl he
  rcases hne with hne | hne
  ·exact hne this.1.symm
  ·have:=(hS k h1 h2).2
   omega
 have hptr:∀ j y T l,nd j=some (y,T)->T l=true->ptr V' y l=ptr V y l:=fun j y T l hj hl =>
  d2 (hv.sok j y T hj) (fun h2=>by have:=hheld j y T 200 hj h2 (.inr rfl);rwa [dq] at this) hl
 have hdig:∀ k,k < p.dc->dig V' p.bm k=dig V p.bm k:=fun k hk=>by
  have:=ho.mapAt hk
  unfold dig
  rw [hlow _ (by omega)]
 refine ⟨?_,⟨fun b hb=>hlow b (by have:=ho.tbl;omega),fun b _ h2=>hlow b h2,fun j y T l hji hj hl=>hheld j y T l hj hl (.inl hji)⟩,hdig,fun k hk=>hptr i x S k hi' hk,fun q hq hSq=>?_⟩
 ·refine hv.same h.len hdig (fun k hk=>?_) fun j=>?_
  ·have h1:=ho.apart
   have h2:=ho.i2
   have h3:=ho.tbl
   unfold dig
   rw [hlow _ (by omega)]
  ·cases hj:nd j with
   | none=>exact .inl ⟨rfl,rfl⟩
   | some y =>
    obtain ⟨y,T⟩:=y
    exact .inr ⟨y,y,T,rfl,rfl,hv.fits _ _ _ hj,fun k hk=>hptr j y T k hj hk⟩
 ·unfold fb
  rw [hptr i x S (q / 512) hi' hSq,h.byt (q / 512) hq (q % 512) (by omega) (fun l h1 h2 he=>(hv.inj i x S l i x S (q / 512) hi' (hS l h1 h2).1 hi' hSq he).2),show 512 * (q / 512)+q % 512=q from by omega]
theorem z159 :ba Tryz.prog 159=some (#[.int .i64 0,.int .i64 0]):=by kernel_rfl
theorem cw :c5 Tryz.prog 159 2=true:=by kernel_rfl
theorem Te {s c a:Nat} {p:Pl} {V0 V:Nat->aa} {D:List Nat} {op:Bool} {i:Nat} (ho:PlOk p) (hi:i < p.ino) (hd:i=0 ∨ dig V p.im i=true):Spec Tryz.prog 174 #[.pointer (some ⟨s,0,none⟩),nI i] [pt s (stO c a p),pt a (alO c p),TR c p.n V0 V D op] fun F v M=>v=.tuple #[.agg #[nI (ldN p V i).kd,nI (ldN p V i).sz],.int .i64 0]/\M=[pt s (stO c a p),pt a (alO c p),TR c p.n V0 V D op]++F:=by
 refine Spec.intro Tryz.func174 rfl rfl fun B F=>?_
 simp only [Tryz.ntmps174,List.cons_append,List.nil_append,env0,Nat.reduceAdd]
 refine .sr ?_
 refine .alloc z159 fun b4=>?_
 refine .assign (.x (.move (.move ?_)))
 refine .call (hc:=Tryz.call233) (sp:=zd (i:=i) (V0:=V0) (V:=V) (D:=D) (op:=op) ho hi hd) (h:=?_)
 rintro _ _ ⟨rfl,rfl⟩
 refine .move ?_
 refine .extract (.extract ?_)
 refine .allocL zNd rfl fun b6=>?_
 refine .stLA (xs:=ndL nd0) (us:=ndL (ldN p V i)) ?_ dv (au (rh _ _).bl) rfl (dm _)
 refine .assign (.x ?_)
 refine .fa ?_ xg
 refine .ldL (xs:=ndL (ldN p V i)) (i:=0) (v:=nI (ldN p V i).kd) ?_ sc3 rfl
 refine .fa ?_ d5
 refine .ldL (xs:=ndL (ldN p V i)) (i:=1) (v:=nI (ldN p V i).sz) ?_ sc3 rfl
 refine .build ?_ (Oo _ _)
 refine .move ?_
 refine .stV ?_ cw
 refine .assign (.z (.ret (?_)))
 exact .ret2 (h2:=.tmp (t:=5) rfl) ⟨_,⟨rfl,rfl⟩,Am.auto⟩
theorem Mh {s c a:Nat} {p:Pl} {V0 V:Nat->aa} {D:List Nat} {op:Bool} {i:Int} (ho:PlOk p) (hno:¬ (0<=i/\i < p.ino/\(i=0 ∨ dig V p.im i.toNat=true))):Spec Tryz.prog 174 #[.pointer (some ⟨s,0,none⟩),.int .i64 i] [pt s (stO c a p),pt a (alO c p),TR c p.n V0 V D op] fun F v M=>v=.tuple #[.agg #[nI 0,nI 0],.int .i64 4]/\M=[pt s (stO c a p),pt a (alO c p),TR c p.n V0 V D op]++F:=by
 refine Spec.intro Tryz.func174 rfl rfl fun B F=>?_
 simp only [Tryz.ntmps174,List.cons_append,List.nil_append,env0,Nat.reduceAdd]
 refine .sr ?_
 refine .alloc z159 fun b4=>?_
 refine .assign (.x (.move (.move ?_)))
 refine .call (hc:=Tryz.call233) (sp:=Mf (i:=i) (V0:=V0) (V:=V) (D:=D) (op:=op) ho hno) (h:=?_)
 rintro _ _ ⟨rfl,rfl⟩
 refine .move ?_
 refine .extract (.extract ?_)
 refine .allocL zNd rfl fun b6=>?_
 refine .stLA (xs:=ndL nd0) (us:=ndL nd0) ?_ dv (au rfl) rfl (dm _)
 refine .assign (.x ?_)
 refine .fa ?_ xg
 refine .ldL (xs:=ndL nd0) (i:=0) (v:=nI nd0.kd) ?_ sc3 rfl
 refine .fa ?_ d5
 refine .ldL (xs:=ndL nd0) (i:=1) (v:=nI nd0.sz) ?_ sc3 rfl
 refine .build ?_ (Oo _ _)
 refine .move ?_
 refine .stV ?_ cw
 refine .assign (.z (.ret (?_)))
 exact .ret2 (h2:=.tmp (t:=5) rfl) ⟨_,⟨rfl,rfl⟩,Am.auto⟩
theorem Mi {s c a:Nat} {p:Pl} {V0 V:Nat->aa} {D:List Nat} (ho:PlOk p) (hroom:Room D):Spec Tryz.prog 81 #[.pointer (some ⟨s,0,none⟩)] [pt s (stO c a p),TR c p.n V0 V D true] fun F v M=>v=okV/\M=[pt s (stO c a p),TR c p.n V0 (svV p V 0 ⟨2,0,List.replicate 11 0⟩) (insD D (p.tb+0 / 8)) true]++F:=by
 refine Spec.intro Tryz.func81 rfl rfl fun B F=>?_
 simp only [Tryz.ntmps81,List.cons_append,List.nil_append,env0,Nat.reduceAdd]
 refine .sr (.assign (.z (.seq (.sr (.move ?_)))))
 refine .call (hc:=Tryz.call140) (sp:=td (n:=p.n) (V0:=V0) (V:=V) (D:=D) (op:=true)) (h:=?_)
 rintro _ _ ⟨rfl,rfl⟩
 simp only [List.cons_append,List.nil_append]
 refine .not (.z ?_)
 refine .condF rfl rfl ?_
 refine .skip (.next (.sr (.move ?_)))
 refine .build ?_ (Qo 2)
 refine .call (hc:=Tryz.call141) (sp:=C2 (i:=0) (x:=⟨2,0,List.replicate 11 0⟩) (V0:=V0) (V:=V) (D:=D) ho ho.i1 ⟨rfl,by decide⟩ hroom) (h:=?_)
 rintro _ _ ⟨rfl,rfl⟩
 refine .assign (.z (.ret (?_)))
 exact .ret1 (h1:=.tmp (t:=2) rfl) ⟨_,⟨rfl,rfl⟩,Am.auto⟩
theorem Mj {k:Nat} (h:k < 4294967296):Fits ⟨k,0,List.replicate 11 0⟩:=⟨rfl,fun v hv=>by
 simp only [Nd.nums,List.mem_cons,List.mem_replicate] at hv
 rcases hv with rfl | rfl | ⟨_,rfl⟩
 ·exact h
 ·decide
 ·decide⟩
def mkD (p:Pl) (D:List Nat) (i:Nat):List Nat:=insD (insD D (p.im+i / 4096)) (p.tb+i / 8)
theorem PlOk.lo {p:Pl} (h:PlOk p):245<=p.im/\p.im < p.bm/\p.bm < p.tb/\p.tb < p.da/\p.da < p.n/\p.n<=65536:=by
 have h1:=h.aI.lo;have h2:=h.apart;have h3:=h.tbl;have h4:=h.d1;have h5:=h.tbda;have h6:=h.dat;have h7:=h.aI.n2
 omega
theorem Tf {p:Pl} {D:List Nat} (ho:PlOk p) (hd:Dk p D) {i:Nat} (hi:i < p.ino):Dk p (mkD p D i)/\wt p (mkD p D i)<=wt p D+1:=by
 have h1:=ho.lo;have h2:=ho.i2;have h3:=ho.tab
 have e1:=qj p D (p.im+i / 4096)
 have e2:=qj p (insD D (p.im+i / 4096)) (p.tb+i / 8)
 have e3:=e1.2.1 (by omega)
 exact ⟨(hd.ins (by omega) (by omega)).ins (by omega) (by omega),by unfold mkD;omega⟩
theorem Tg {s c a:Nat} {p:Pl} {V0 V:Nat->aa} {D:List Nat} {k:Nat} (ho:PlOk p) (hk:k=1 ∨ k=2) (hdk:Dk p D) (hrm:Rm p D 1):Spec Tryz.prog 120 #[.pointer (some ⟨s,0,none⟩),nI k] [pt s (stO c a p),pt a (alO c p),TR c p.n V0 V D true] fun F v M =>
  (∃ i,i < p.ino/\dig V p.im i=false/\(∀ j < i,dig V p.im j=true)/\v=.tuple #[nI i,.int .i64 0]/\M=[pt s (stO c a p),pt a (alO c p),TR c p.n V0 (svV p (setD V p.im i true) i ⟨k,0,List.replicate 11 0⟩) (mkD p D i) true]++F) ∨
  ((∀ j < p.ino,dig V p.im j=true)/\v=.tuple #[nI 0,.int .i64 3]/\M=[pt s (stO c a p),pt a (alO c p),TR c p.n V0 V D true]++F):=by
 refine Spec.intro Tryz.func120 rfl rfl fun B F=>?_
 simp only [Tryz.ntmps120,List.cons_append,List.nil_append,env0,Nat.reduceAdd]
 have hlo:=ho.lo
 have hi2:=ho.i2
 rcases hk with rfl | rfl
 ·refine .sr (.assign (.assign (.z (.seq (.block (.sr (.move ?_)))))))
  refine .call (hc:=Tryz.call140) (sp:=td (n:=p.n) (V0:=V0) (V:=V) (D:=D) (op:=true)) (h:=?_)
  rintro _ _ ⟨rfl,rfl⟩
  simp only [List.cons_append,List.nil_append]
  refine .not ?_
  refine .assign (.z ?_)
  refine .condF rfl rfl ?_
  refine .sr (.move ?_)
  refine .nei ?_
  refine .move (.gF (.gF (.pickF (.assign (.z ?_)))))
  refine .condF rfl rfl ?_
  refine .skip (.blockNormal (.next (.sr (.move (.nilCheck ?_)))))
  refine .fa ?_ ph
  refine .ld ?_ lb
  refine .call (hc:=Tryz.call193) (sp:=tc (p:=p) (V0:=V0) (V:=V) (D:=D) ho (hdk.room (c:=0) hrm)) (h:=?_)
  rintro _ _ (⟨j,hj,hj0,hjb,rfl,rfl⟩ | ⟨hall,rfl,rfl⟩)<;>simp only [List.cons_append,List.nil_append]
  ·refine .move ?_
   refine .extract (.extract ?_)
   refine .assign (.assign (.z (.seq (.sr (.move ?_)))))
   refine .nei (.z ?_)
   refine .condF rfl rfl ?_
   refine .skip (.next (.seq (.sr (.move (.move (.move ?_))))))
   refine .build ?_ (Qo 1)
   refine .call (hc:=Tryz.call141) (sp:=C2 (i:=j) (x:=⟨1,0,List.replicate 11 0⟩) (V0:=V0) (V:=setD V p.im j true) (D:=insD D (p.im+j / 4096)) ho hj (Mj (by decide)) ((hdk.ins (by omega) (by omega)).room (c:=0) (hrm.mono (by have:=(qj p D (p.im+j / 4096)).2.1 (by omega);omega)))) (h:=?_)
   rintro _ _ ⟨rfl,rfl⟩
   simp only [List.cons_append,List.nil_append]
   refine .assign (.x (.move ?_))
   refine .nei (.z ?_)
   refine .condF rfl rfl ?_
   refine .skip (.next (.sr (.move (.assign (.assign (.z ?_))))))
   refine .ret (?_)
   exact .ret2 (h1:=.tmp (t:=4) rfl) (h2:=.tmp (t:=5) rfl) ⟨_,.inl ⟨j,hj,hj0,hjb,rfl,rfl⟩,Am.auto⟩
  ·refine .move ?_
   refine .extract (.extract ?_)
   refine .assign (.assign (.z (.seq (.sr (.move ?_)))))
   refine .nei (.z ?_)
   refine .condT rfl rfl ?_
   refine .sr (.move (.assign (.assign (.z ?_))))
   refine .ret (.thenRet (?_))
   exact .ret2 (h1:=.tmp (t:=4) rfl) (h2:=.tmp (t:=5) rfl) ⟨_,.inr ⟨hall,rfl,rfl⟩,Am.auto⟩
 ·refine .sr (.assign (.assign (.z (.seq (.block (.sr (.move ?_)))))))
  refine .call (hc:=Tryz.call140) (sp:=td (n:=p.n) (V0:=V0) (V:=V) (D:=D) (op:=true)) (h:=?_)
  rintro _ _ ⟨rfl,rfl⟩
  simp only [List.cons_append,List.nil_append]
  refine .not ?_
  refine .assign (.z ?_)
  refine .condF rfl rfl ?_
  refine .sr (.move ?_)
  refine .nei ?_
  refine .move (.gT (.move (.gT ?_)))
  refine .nei ?_
  refine .pickT (.assign (.z ?_))
  refine .condF rfl rfl ?_
  refine .skip (.blockNormal (.next (.sr (.move (.nilCheck ?_)))))
  refine .fa ?_ ph
  refine .ld ?_ lb
  refine .call (hc:=Tryz.call193) (sp:=tc (p:=p) (V0:=V0) (V:=V) (D:=D) ho (hdk.room (c:=0) hrm)) (h:=?_)
  rintro _ _ (⟨j,hj,hj0,hjb,rfl,rfl⟩ | ⟨hall,rfl,rfl⟩)<;>simp only [List.cons_append,List.nil_append]
  ·refine .move ?_
   refine .extract (.extract ?_)
   refine .assign (.assign (.z (.seq (.sr (.move ?_)))))
   refine .nei (.z ?_)
   refine .condF rfl rfl ?_
   refine .skip (.next (.seq (.sr (.move (.move (.move ?_))))))
   refine .build ?_ (Qo 2)
   refine .call (hc:=Tryz.call141) (sp:=C2 (i:=j) (x:=⟨2,0,List.replicate 11 0⟩) (V0:=V0) (V:=setD V p.im j true) (D:=insD D (p.im+j / 4096)) ho hj (Mj (by decide)) ((hdk.ins (by omega) (by omega)).room (c:=0) (hrm.mono (by have:=(qj p D (p.im+j / 4096)).2.1 (by omega);omega)))) (h:=?_)
   rintro _ _ ⟨rfl,rfl⟩
   simp only [List.cons_append,List.nil_append]
   refine .assign (.x (.move ?_))
   refine .nei (.z ?_)
   refine .condF rfl rfl ?_
   refine .skip (.next (.sr (.move (.assign (.assign (.z ?_))))))
   refine .ret (?_)
   exact .ret2 (h1:=.tmp (t:=4) rfl) (h2:=.tmp (t:=5) rfl) ⟨_,.inl ⟨j,hj,hj0,hjb,rfl,rfl⟩,Am.auto⟩
  ·refine .move ?_
   refine .extract (.extract ?_)
   refine .assign (.assign (.z (.seq (.sr (.move ?_)))))
   refine .nei (.z ?_)
   refine .condT rfl rfl ?_
   refine .sr (.move (.assign (.assign (.z ?_))))
   refine .ret (.thenRet (?_))
   exact .ret2 (h1:=.tmp (t:=4) rfl) (h2:=.tmp (t:=5) rfl) ⟨_,.inr ⟨hall,rfl,rfl⟩,Am.auto⟩
theorem inBlock {s c a:Nat} {p:Pl} {V0 V:Nat->aa} {D:List Nat} {op:Bool} {x:Nd} {k:Nat} (hbl:x.bl.length=11) (hk:k < 138) (hV:10<=k->245<=x.bl.getD 10 0/\x.bl.getD 10 0 < p.n):Spec Tryz.prog 238 #[.pointer (some ⟨s,0,none⟩),ndV x,nI k] [pt s (stO c a p),TR c p.n V0 V D op] fun F v M=>v=.tuple #[nI (ptr V x k),.int .i64 0]/\M=[pt s (stO c a p),TR c p.n V0 V D op]++F:=by
 refine Spec.intro Tryz.func238 rfl rfl fun B F=>?_
 simp only [Tryz.ntmps238,List.cons_append,List.nil_append,env0,Nat.reduceAdd]
 by_cases h10:k < 10
 ·refine .sr ?_
  refine .boxL (us:=ndL x) fun b4=>?_
  refine .assign (.assign (.z (.seq (.sr (.move ?_)))))
  refine .lss (.z ?_)
  refine .condT rfl (cB9 (by first|simp;done|simp;omega|omega)) ?_
  refine .sr (.move ?_)
  refine .fa ?_ i0
  refine .idxA ?_ ur
  refine .ldL (xs:=ndL x) (i:=0+2+((k:Nat):Int).toNat * 1) (v:=nI (x.bl.getD k 0)) ?_ sc3 (by rw [show 0+2+((k:Nat):Int).toNat * 1=2+k from by omega];exact vg (by omega))
  refine .assign (.assign (.z ?_))
  refine .ret (.thenRet (?_))
  exact .ret2 (h1:=.tmp (t:=6) rfl) (h2:=.tmp (t:=7) rfl) ⟨_,⟨by unfold ptr;rw [if_neg (by omega),if_pos h10],rfl⟩,Am.auto⟩
 ·obtain ⟨hV1,hV2⟩:=hV (by omega)
  refine .sr ?_
  refine .boxL (us:=ndL x) fun b4=>?_
  refine .assign (.assign (.z (.seq (.sr (.move ?_)))))
  refine .lss (.z ?_)
  refine .condF rfl (cB9 (by first|simp;done|simp;omega|omega)) ?_
  refine .skip (.next (.seq ?_))
  refine .dr ([pt s (stO c a p),row b4 215 (ndL x)]) [] 13 mixed .autoJ ?_
  refine .tk 0 rfl .move ?_
  refine .tk 1 rfl .nilCheck ?_
  refine .tk 2 rfl (.fa dw) ?_
  refine .tk 3 rfl (.ld dj) ?_
  refine .tk 4 rfl (.fa i0) ?_
  refine .tk 5 rfl (.idxA ur) ?_
  refine .tk 6 rfl (Qt.ldL (xs:=ndL x) (i:=12) (v:=nI (x.bl.getD 10 0)) sc3 (vg (k:=10) (by omega))) ?_
  refine .on 7 rfl fun hnp=>?_
  refine .call (hc:=Tryz.call212) (sp:=pf (n:=p.n) (V0:=V0) (V:=V) (D:=D) (op:=op) (k:=x.bl.getD 10 0) hV1 hV2) (h:=?_)
  rintro _ _ ⟨gb,q,el,rfl,⟨hq1,hq2,hl5⟩,rfl⟩
  refine .nil (.wa hnp ?_)
  refine .tk 8 rfl .move ?_
  refine .tk 9 rfl .extract ?_
  refine .tk 10 rfl .extract ?_
  refine .tk 11 rfl .assign ?_
  refine .tk 12 rfl .assign ?_
  refine .fin ?_
  refine .next (.sr (.move (.move ?_)))
  refine .sub ?_
  refine .mul ?_
  refine .cast (d:=30) (u:=nI (4 * (k - 10))) rfl (cI9 (by omega)) ?_
  refine .call (hc:=Tryz.call259) (sp:=Mc (q:=4 * (k - 10)) Reads.buf hl5 (by decide) (by omega)) (h:=?_)
  rintro _ _ ⟨rfl,rfl⟩
  refine .move (.assign (.assign (.z (.ret (?_)))))
  exact .ret2 (h1:=.tmp (t:=6) rfl) (h2:=.tmp (t:=7) rfl) ⟨_,⟨by unfold ptr;rw [if_neg (by omega),if_neg h10];rfl,rfl⟩,Am.auto⟩
def frD (p:Pl) (D:List Nat) (b:Nat):List Nat:=insD (insD D (p.bm+b / 4096)) (p.da+b)
theorem th {p:Pl} {D:List Nat} (ho:PlOk p) (hd:Dk p D) {b:Nat} (hb:b < p.dc):Dk p (frD p D b)/\wt p (frD p D b)<=wt p D+1/\(∀ z∈D,z∈frD p D b)/\p.da+b∈frD p D b:=by
 have h1:=ho.lo;have h2:=ho.mapAt hb;have h3:=ho.dat
 have e1:=(qj p D (p.bm+b / 4096)).2.1 h2
 have e2:=qj p (insD D (p.bm+b / 4096)) (p.da+b)
 refine ⟨(hd.ins (by omega) (by omega)).ins (by omega) (by omega),by unfold frD;omega,fun z hz=>?_,?_⟩
 ·exact mem_insD.2 (.inl (mem_insD.2 (.inl hz)))
 ·exact mem_insD.2 (.inr rfl)
theorem xi {s c a:Nat} {p:Pl} {V0 V:Nat->aa} {D:List Nat} (ho:PlOk p) (hdk:Dk p D) (hrm:Rm p D 1) (hfree:cnt V p.bm p.dc < p.dc):Spec Tryz.prog 288 #[.pointer (some ⟨s,0,none⟩)] [pt s (stO c a p),pt a (alO c p),TR c p.n V0 V D true] fun F v M =>
  ∃ b,b < p.dc/\dig V p.bm b=false/\v=.tuple #[nI (p.da+b),.int .i64 0]/\M=[pt s (stO c a p),pt a (alO c p),TR c p.n V0 (frV p V b) (frD p D b) true]++F:=by
 refine Spec.intro Tryz.func288 rfl rfl fun B F=>?_
 simp only [Tryz.ntmps288,List.cons_append,List.nil_append,env0,Nat.reduceAdd]
 have hlo:=ho.lo
 have hdat:=ho.dat
 refine .sr (.assign (.assign (.x (.move (.nilCheck ?_)))))
 refine .fa ?_ ph
 refine .ld ?_ lb
 refine .call (hc:=Tryz.call307) (sp:=Be (p:=p) (V0:=V0) (V:=V) (D:=D) ho (hdk.room (c:=0) hrm)) (h:=?_)
 rintro _ _ (⟨k,hk,hk0,hkb,rfl,rfl⟩ | ⟨hall,rfl,rfl⟩)<;>simp only [List.cons_append,List.nil_append]
 ·refine .move ?_
  refine .extract (.extract ?_)
  refine .assign (.assign (.z (.seq (.sr (.move ?_)))))
  refine .nei (.z ?_)
  refine .condF rfl rfl ?_
  refine .skip (.next (.seq ?_))
  have hmp:=ho.mapAt hk
  have hroom2:(insD D (p.bm+k / 4096)).length < 60:=(hdk.ins (by omega) (by omega)).room (c:=0) (hrm.mono (by have:=(qj p D (p.bm+k / 4096)).2.1 (by omega);omega))
  refine .dr ([pt s (stO c a p)]) [] 10 mixed .autoJ ?_
  refine .tk 0 rfl .move ?_
  refine .tk 1 rfl .move ?_
  refine .tk 2 rfl .nilCheck ?_
  refine .tk 3 rfl (.fa dw) ?_
  refine .tk 4 rfl (.ld dj) ?_
  refine .tk 5 rfl .move ?_
  refine .on 6 rfl fun hnp=>?_
  refine .mkSN 512 z5 so79 (by decide) (by decide) fun b23=>?_
  refine .to (A:=buf b23 5 512 (List.replicate 512 (.int .u8 0))) (A':=buf b23 5 512 (bvs zeros)) (fun h hh=>by rw [zeros,bw];exact hh) ?_
  refine .nil (.wa hnp ?_)
  refine .on 7 rfl fun hnp=>?_
  refine .call (hc:=Tryz.call78) (sp:=nz (n:=p.n) (V0:=V0) (V:=setD V p.bm k true) (D:=insD D (p.bm+k / 4096)) (k:=p.da+k) (by omega) (by omega) Reads.buf bg rfl (.inr hroom2)) (h:=?_)
  rintro _ _ ⟨rfl,rfl⟩
  refine .nil (.wa hnp ?_)
  refine .tk 8 rfl .assign ?_
  refine .tk 9 rfl .assign ?_
  refine .fin ?_
  refine .next (.ret (?_))
  exact .ret2 (h1:=.tmp (t:=2) rfl) (h2:=.tmp (t:=3) rfl) ⟨_,⟨k,hk,hk0,rfl,rfl⟩,Am.auto⟩
 ·exact absurd hfree (by rw [Mg hall];omega)
structure TakeP (p:Pl) (V V':Nat->aa) (nd:NF) (i:Nat) (x x':Nd) (D D':List Nat) (k:Nat):Prop where
 stp:Stp p V V' nd i x x' (stdS k) (stdS (k+1))
 cn:cnt V' p.bm p.dc=cnt V p.bm p.dc+(if k=10 then 2 else 1)
 new:∀ j,j < 512->fb V' x' (512 * k+j)=0
 dk:Dk p D'
 wt:wt p D'+(if 10 < k/\x.bl.getD 10 0∈D then 1 else 0)<=wt p D+(if k=10 then 2 else 1)+(if 10 < k then 1 else 0)
 ind:10<=k->x'.bl.getD 10 0∈D'
theorem H7 {V:Nat->aa} {x:Nd} {k v:Nat} (h:ptr V x k=v) (hv:V v=zeros) {j:Nat} (hj:j < 512):fb V x (512 * k+j)=0:=by
 unfold fb
 rw [show (512 * k+j) / 512=k from by omega,h,hv]
 exact E1 _
theorem takeA {p:Pl} {V:Nat->aa} {D:List Nat} {nd:NF} (h:Inv p V nd) (ho:PlOk p) (hdk:Dk p D) {i b k:Nat} {x:Nd} (hi:nd i=some (x,stdS k)) (hk:k < 10) (hb:b < p.dc) (hd:dig V p.bm b=false) :
  TakeP p V (frV p V b) nd i x ⟨x.kd,x.sz,x.bl.set k (p.da+b)⟩ D (frD p D b) k:=by
 obtain ⟨h1,h2⟩:=vh (S':=stdS (k+1)) h ho hi hb hd (.inl ⟨hk,rfl⟩) (fun l=>by simp only [stdS_iff];omega) (by unfold stdS;simp;omega)
 have h3:=th ho hdk hb
 refine ⟨h1,?_,fun j hj=>H7 h2 (H1 p V b) hj,h3.1,?_,fun hh=>by omega⟩
 ·rw [if_neg (by omega)]
  exact n4 hb hd fun l hl=>pi ho h.len hb hl
 ·rw [if_neg (by omega),if_neg (by omega),if_neg (by omega)]
  omega
theorem C4 {p:Pl} {D:List Nat} (hd:Dk p D) {v:Nat} (h1:245<=v) (h2:v < p.n):Dk p (insD D v)/\wt p (insD D v)<=wt p D+1/\(v∈D->wt p (insD D v)=wt p D)/\v∈insD D v:=by
 have:=qj p D v
 exact ⟨hd.ins h1 h2,this.1,this.2.2,mem_insD.2 (.inr rfl)⟩
theorem Th {p:Pl} {V:Nat->aa} {D:List Nat} {nd:NF} (h:Inv p V nd) (ho:PlOk p) (hdk:Dk p D) {i b k:Nat} {x:Nd} (hi:nd i=some (x,stdS k)) (hk:10 < k) (hk2:k < 138) (hb:b < p.dc) (hd:dig V p.bm b=false) :
  TakeP p V (inV p V x b k) nd i x x D (insD (frD p D b) (x.bl.getD 10 0)) k:=by
 have h200:stdS k 200=true:=stdS_iff.2 (.inr ⟨rfl,hk⟩)
 obtain ⟨h1,h2,h3⟩:=H5 (S':=stdS (k+1)) h ho hi hb hd (by omega) hk2 h200 (fun l=>by simp only [stdS_iff];omega) (by unfold stdS;simp;omega)
 have hlo:=ho.lo
 have hr:=h.rng i x _ 200 hi h200
 rw [dq] at hr
 have h4:=th ho hdk hb
 have h5:=C4 h4.1 (v:=x.bl.getD 10 0) (by omega) hr.2
 refine ⟨h1,?_,fun j hj=>H7 h2 h3 hj,h5.1,?_,fun _=>h5.2.2.2⟩
 ·rw [if_neg (by omega)]
  exact n4 hb hd fun l hl=>H6 h ho hi hb h200 hl
 ·rw [if_neg (show ¬ k=10 by omega),if_pos hk]
  split
  ·rename_i hc
   have:=h5.2.2.1 (h4.2.2.1 _ hc.2)
   omega
  ·omega
def sInd (k:Nat):Nat->Bool:=fun l=>decide (l < k) || decide (l=200)
theorem takeB {p:Pl} {V:Nat->aa} {D:List Nat} {nd:NF} (h:Inv p V nd) (ho:PlOk p) (hdk:Dk p D) {i b1 b2:Nat} {x x1:Nd} (hi:nd i=some (x,stdS 10)) (hx1:x1=⟨x.kd,x.sz,x.bl.set 10 (p.da+b1)⟩) (hb:b1 < p.dc) (hd:dig V p.bm b1=false)
  (hb2:b2 < p.dc) (hd2:dig (frV p V b1) p.bm b2=false) :
  TakeP p V (inV p (frV p V b1) x1 b2 10) nd i x x1 D (insD (frD p (frD p D b1) b2) (x1.bl.getD 10 0)) 10:=by
 subst hx1
 have hfx:=h.fits i x _ hi
 have hd10:(x.bl.set 10 (p.da+b1)).getD 10 0=p.da+b1:=d3 (by rw [hfx.bl];decide)
 obtain ⟨s1,s2⟩:=vh (S':=sInd 10) (c:=200) (k:=10) h ho hi hb hd (.inr ⟨rfl,rfl,fun l hl=>by have:=stdS_iff.1 hl;omega⟩) (fun l=>by simp only [stdS_iff,sInd,Bool.or_eq_true,decide_eq_true_eq];omega) (by unfold stdS;simp)
 have hi1:updF nd i (some (⟨x.kd,x.sz,x.bl.set 10 (p.da+b1)⟩,sInd 10)) i=some (⟨x.kd,x.sz,x.bl.set 10 (p.da+b1)⟩,sInd 10):=ay ..
 have h200:sInd 10 200=true:=by unfold sInd;simp
 obtain ⟨t1,t2,t3⟩:=H5 (S':=stdS 11) (k:=10) s1.inv ho hi1 hb2 hd2 (by omega) (by omega) h200 (fun l=>by simp only [stdS_iff,sInd,Bool.or_eq_true,decide_eq_true_eq];omega) (by unfold sInd;simp)
 have h4:=th ho hdk hb
 have h5:=th ho h4.1 hb2
 have hlo:=ho.lo
 have hdat:=ho.dat
 have h6:=C4 h5.1 (v:=p.da+b1) (by omega) (by omega)
 refine ⟨Stp.trans h s1 t1 (fun l h1 _=>by have:=stdS_iff.1 h1;unfold sInd;simp;omega),?_,fun j hj=>H7 t2 t3 hj,?_,?_,fun _=>?_⟩
 ·rw [if_pos rfl]
  have e1:cnt (frV p V b1) p.bm p.dc=cnt V p.bm p.dc+1:=n4 hb hd fun l hl=>pi ho h.len hb hl
  have e2:cnt (inV p (frV p V b1) ⟨x.kd,x.sz,x.bl.set 10 (p.da+b1)⟩ b2 10) p.bm p.dc=cnt (frV p V b1) p.bm p.dc+1:=n4 hb2 hd2 fun l hl=>H6 s1.inv ho hi1 hb2 h200 hl
  omega
 ·show Dk p (insD (frD p (frD p D b1) b2) ((x.bl.set 10 (p.da+b1)).getD 10 0))
  rw [hd10];exact h6.1
 ·show Go.Proofs.YtmihjfcbofejoaaGreatDoor.wt p (insD (frD p (frD p D b1) b2) ((x.bl.set 10 (p.da+b1)).getD 10 0))+_<=_
  rw [hd10,if_neg (by omega),if_pos rfl,if_neg (by omega),h6.2.2.1 (h5.2.2.1 _ h4.2.2.2)]
  omega
 ·show (x.bl.set 10 (p.da+b1)).getD 10 0∈insD (frD p (frD p D b1) b2) ((x.bl.set 10 (p.da+b1)).getD 10 0)
  rw [hd10];exact h6.2.2.2
theorem Qp {p:Pl} {V:Nat->aa} (ho:PlOk p) (h5:Len5 V) {b:Nat} (hb:b < p.dc) (hd:dig V p.bm b=false):cnt (frV p V b) p.bm p.dc=cnt V p.bm p.dc+1:=n4 hb hd fun l hl=>pi ho h5 hb hl
theorem Ti {s c a:Nat} {p:Pl} {V0 V:Nat->aa} {D:List Nat} {nd:NF} {i b k:Nat} {x:Nd} (h:Inv p V nd) (ho:PlOk p) (hi:nd i=some (x,stdS k)) (hk:k < 138) (hdk:Dk p D) (hrm:Rm p D 3) (hfree:cnt V p.bm p.dc+(if k=10 then 2 else 1)<=p.dc) :
  Spec Tryz.prog 251 #[.pointer (some ⟨s,0,none⟩),.pointer (some ⟨b,0,none⟩),nI k] [pt s (stO c a p),pt a (alO c p),TR c p.n V0 V D true,row b 215 (ndL x)] fun F v M=>∃ x' V' D',TakeP p V V' nd i x x' D D' k/\v=okV/\M=[pt s (stO c a p),pt a (alO c p),TR c p.n V0 V' D' true,row b 215 (ndL x')]++F:=by
 refine Spec.intro Tryz.func251 rfl rfl fun B F=>?_
 simp only [Tryz.ntmps251,List.cons_append,List.nil_append,env0,Nat.reduceAdd]
 have hlo:=ho.lo
 have hdat:=ho.dat
 have hfx:=h.fits i x _ hi
 have hbl:=hfx.bl
 rcases (show k < 10 ∨ k=10 ∨ 10 < k from by omega) with hc | hc | hc
 ·rw [if_neg (by omega)] at hfree
  refine .sr (.assign (.z (.seq (.sr (.move ?_)))))
  refine .eqi (.z ?_)
  refine .condF rfl (cB9 (by first|simp;done|simp;omega|omega)) ?_
  refine .skip (.next (.sr (.move ?_)))
  refine .call (hc:=Tryz.call288) (sp:=xi (V0:=V0) (V:=V) (D:=D) ho hdk (hrm.mono (by omega)) (by omega)) (h:=?_)
  rintro _ _ ⟨q,hq,hqd,rfl,rfl⟩
  simp only [List.cons_append,List.nil_append]
  refine .move ?_
  refine .extract (.extract ?_)
  refine .assign (.assign (.z (.seq (.sr (.move ?_)))))
  refine .nei (.z ?_)
  refine .condF rfl rfl ?_
  refine .skip (.next (.seq (.sr (.move ?_))))
  refine .lss (.z ?_)
  refine .condT rfl (cB9 (by first|simp;done|simp;omega|omega)) ?_
  refine .sr (.move (.move (.move (.nilCheck ?_))))
  refine .fa ?_ i0
  refine .idxA ?_ ur
  refine .stL (xs:=ndL x) (i:=0+2+((k:Nat):Int).toNat * 1) ?_ sc3 (by rw [au hbl];omega)
  refine .to (A:=row b 215 ((ndL x).set (0+2+((k:Nat):Int).toNat * 1) (nI (p.da+q)))) (A':=row b 215 (ndL ⟨x.kd,x.sz,x.bl.set k (p.da+q)⟩)) (fun h hh=>by rw [show 0+2+((k:Nat):Int).toNat * 1=2+k from by omega,Bk] at hh;exact hh) ?_
  refine .x (.assign (.z ?_))
  refine .ret (.thenRet (?_))
  exact .ret1 (h1:=.tmp (t:=6) rfl) ⟨_,⟨_,_,_,takeA h ho hdk hi hc hq hqd,rfl,rfl⟩,Am.auto⟩
 ·subst hc
  rw [if_pos rfl] at hfree
  refine .sr (.assign (.z (.seq (.sr (.move ?_)))))
  refine .eqi (.z ?_)
  refine .condT rfl (cB9 (by first|simp;done|simp;omega|omega)) ?_
  refine .sr (.move ?_)
  refine .call (hc:=Tryz.call288) (sp:=xi (V0:=V0) (V:=V) (D:=D) ho hdk (hrm.mono (by omega)) (by omega)) (h:=?_)
  rintro _ _ ⟨q,hq,hqd,rfl,rfl⟩
  simp only [List.cons_append,List.nil_append]
  refine .move ?_
  refine .extract (.extract ?_)
  refine .assign (.assign (.z (.seq (.sr (.move ?_)))))
  refine .nei (.z ?_)
  refine .condF rfl rfl ?_
  refine .skip (.next (.region (.move (.move (.nilCheck ?_)))))
  refine .fa ?_ i0
  refine .idxA ?_ ur
  refine .stL (xs:=ndL x) (i:=12) ?_ sc3 (by rw [au hbl];omega)
  refine .to (A:=row b 215 ((ndL x).set 12 (nI (p.da+q)))) (A':=row b 215 (ndL ⟨x.kd,x.sz,x.bl.set 10 (p.da+q)⟩)) (fun h hh=>by rw [show 12=2+10 from rfl,Bk] at hh;exact hh) ?_
  refine .x (.move ?_)
  have hD1:=th ho hdk hq
  have hcn:=Qp ho h.len hq hqd
  refine .call (hc:=Tryz.call288) (sp:=xi (V0:=V0) (V:=frV p V q) (D:=frD p D q) ho hD1.1 (hrm.mono (by omega)) (by omega)) (h:=?_)
  rintro _ _ ⟨r,hr,hrd,rfl,rfl⟩
  simp only [List.cons_append,List.nil_append]
  refine .move ?_
  refine .extract (.extract ?_)
  refine .assign (.assign (.z (.seq (.sr (.move ?_)))))
  refine .nei (.z ?_)
  refine .condF rfl rfl ?_
  refine .skip (.next (.seq (.sr (.move ?_))))
  refine .lss (.z ?_)
  refine .condF rfl (cB9 (by first|simp;done|simp;omega|omega)) ?_
  refine .skip (.next (.seq ?_))
  have hD2:=th ho hD1.1 hr
  have hroom:Room (frD p (frD p D q) r):=hD2.1.room (c:=0) (hrm.mono (by omega))
  refine .dr ([pt s (stO c a p),row b 215 (ndL (⟨x.kd,x.sz,x.bl.set 10 (p.da+q)⟩:Nd))]) [] 15 mixed .autoJ ?_
  refine .tk 0 rfl .move ?_
  refine .tk 1 rfl .nilCheck ?_
  refine .tk 2 rfl (.fa dw) ?_
  refine .tk 3 rfl (.ld dj) ?_
  refine .tk 4 rfl .move ?_
  refine .tk 5 rfl .nilCheck ?_
  refine .tk 6 rfl (.fa i0) ?_
  refine .tk 7 rfl (.idxA ur) ?_
  refine .tk 8 rfl (Qt.ldL (xs:=ndL (⟨x.kd,x.sz,x.bl.set 10 (p.da+q)⟩:Nd)) (i:=12) (v:=nI (p.da+q)) sc3 (by have:=vg (x:=(⟨x.kd,x.sz,x.bl.set 10 (p.da+q)⟩:Nd)) (k:=10) (by simp [hbl]);rw [show ((⟨x.kd,x.sz,x.bl.set 10 (p.da+q)⟩:Nd)).bl.getD 10 0=p.da+q from d3 (by omega)] at this;exact this)) ?_
  refine .on 9 rfl fun hnp=>?_
  refine .call (hc:=Tryz.call212) (sp:=pf (n:=p.n) (V0:=V0) (V:=frV p (frV p V q) r) (D:=frD p (frD p D q) r) (op:=true) (k:=p.da+q) (by omega) (by omega)) (h:=?_)
  rintro _ _ ⟨gb,kb,el,rfl,⟨hq1,hq2,hl5⟩,rfl⟩
  refine .nil (.wa hnp ?_)
  refine .tk 10 rfl .move ?_
  refine .tk 11 rfl .extract ?_
  refine .tk 12 rfl .extract ?_
  refine .tk 13 rfl .assign ?_
  refine .tk 14 rfl .assign ?_
  refine .fin ?_
  refine .next (.seq (.sr (.move ?_)))
  refine .nei (.z ?_)
  refine .condF rfl rfl ?_
  refine .skip (.next (.seq ?_))
  refine .dr ([pt s (stO c a p),row b 215 (ndL (⟨x.kd,x.sz,x.bl.set 10 (p.da+q)⟩:Nd))]) [] 17 mixed .autoJ ?_
  refine .tk 0 rfl .move ?_
  refine .tk 1 rfl .nilCheck ?_
  refine .tk 2 rfl (.fa dw) ?_
  refine .tk 3 rfl (.ld dj) ?_
  refine .tk 4 rfl .move ?_
  refine .tk 5 rfl .nilCheck ?_
  refine .tk 6 rfl (.fa i0) ?_
  refine .tk 7 rfl (.idxA ur) ?_
  refine .tk 8 rfl (Qt.ldL (xs:=ndL (⟨x.kd,x.sz,x.bl.set 10 (p.da+q)⟩:Nd)) (i:=12) (v:=nI (p.da+q)) sc3 (by have:=vg (x:=(⟨x.kd,x.sz,x.bl.set 10 (p.da+q)⟩:Nd)) (k:=10) (by simp [hbl]);rw [show ((⟨x.kd,x.sz,x.bl.set 10 (p.da+q)⟩:Nd)).bl.getD 10 0=p.da+q from d3 (by omega)] at this;exact this)) ?_
  refine .tk 9 rfl .move ?_
  refine .tk 10 rfl .move ?_
  refine .tk 11 rfl .sub ?_
  refine .tk 12 rfl ((Qt.mul).eq (v':=nI (4 * (10 - 10))) (cI9 (by omega))) ?_
  refine .tk 13 rfl .move ?_
  refine .on 14 rfl fun hnp=>?_
  refine .call (hc:=Tryz.call213) (sp:=Hy (q:=4 * (10 - 10)) (v:=p.da+r) Reads.buf hl5 (by decide) (by omega) (by omega)) (h:=?_)
  rintro _ _ ⟨gc,kc,⟨rfl,hc1,hc2⟩,rfl⟩
  refine .nil (.wa hnp ?_)
  refine .on 15 rfl fun hnp=>?_
  refine .call (hc:=Tryz.call78) (sp:=nz (n:=p.n) (V0:=V0) (V:=frV p (frV p V q) r) (D:=frD p (frD p D q) r) (k:=p.da+q) (by omega) (by omega) Reads.buf ((bu _ _ _).trans hl5) rfl (.inr hroom)) (h:=?_)
  rintro _ _ ⟨rfl,rfl⟩
  refine .nil (.wa hnp ?_)
  refine .tk 16 rfl .assign ?_
  refine .fin ?_
  refine .next (.ret (?_))
  have hd10:(⟨x.kd,x.sz,x.bl.set 10 (p.da+q)⟩:Nd).bl.getD 10 0=p.da+q:=d3 (by omega)
  have hT:=takeB h ho hdk hi rfl hq hqd hr hrd
  unfold inV at hT
  rw [hd10] at hT
  exact .ret1 (h1:=.tmp (t:=6) rfl) ⟨_,⟨_,_,_,hT,rfl,rfl⟩,Am.auto⟩
 ·rw [if_neg (by omega)] at hfree
  have hir:=h.rng i x _ 200 hi (stdS_iff.2 (.inr ⟨rfl,hc⟩))
  rw [dq] at hir
  refine .sr (.assign (.z (.seq (.sr (.move ?_)))))
  refine .eqi (.z ?_)
  refine .condF rfl (cB9 (by first|simp;done|simp;omega|omega)) ?_
  refine .skip (.next (.sr (.move ?_)))
  refine .call (hc:=Tryz.call288) (sp:=xi (V0:=V0) (V:=V) (D:=D) ho hdk (hrm.mono (by omega)) (by omega)) (h:=?_)
  rintro _ _ ⟨q,hq,hqd,rfl,rfl⟩
  simp only [List.cons_append,List.nil_append]
  refine .move ?_
  refine .extract (.extract ?_)
  refine .assign (.assign (.z (.seq (.sr (.move ?_)))))
  refine .nei (.z ?_)
  refine .condF rfl rfl ?_
  refine .skip (.next (.seq (.sr (.move ?_))))
  refine .lss (.z ?_)
  refine .condF rfl (cB9 (by first|simp;done|simp;omega|omega)) ?_
  refine .skip (.next (.seq ?_))
  have hD1:=th ho hdk hq
  have hroom:Room (frD p D q):=hD1.1.room (c:=0) (hrm.mono (by omega))
  refine .dr ([pt s (stO c a p),row b 215 (ndL x)]) [] 15 mixed .autoJ ?_
  refine .tk 0 rfl .move ?_
  refine .tk 1 rfl .nilCheck ?_
  refine .tk 2 rfl (.fa dw) ?_
  refine .tk 3 rfl (.ld dj) ?_
  refine .tk 4 rfl .move ?_
  refine .tk 5 rfl .nilCheck ?_
  refine .tk 6 rfl (.fa i0) ?_
  refine .tk 7 rfl (.idxA ur) ?_
  refine .tk 8 rfl (Qt.ldL (xs:=ndL x) (i:=12) (v:=nI (x.bl.getD 10 0)) sc3 (vg (k:=10) (by omega))) ?_
  refine .on 9 rfl fun hnp=>?_
  refine .call (hc:=Tryz.call212) (sp:=pf (n:=p.n) (V0:=V0) (V:=frV p (V) q) (D:=frD p (D) q) (op:=true) (k:=x.bl.getD 10 0) (by omega) (by omega)) (h:=?_)
  rintro _ _ ⟨gb,kb,el,rfl,⟨hq1,hq2,hl5⟩,rfl⟩
  refine .nil (.wa hnp ?_)
  refine .tk 10 rfl .move ?_
  refine .tk 11 rfl .extract ?_
  refine .tk 12 rfl .extract ?_
  refine .tk 13 rfl .assign ?_
  refine .tk 14 rfl .assign ?_
  refine .fin ?_
  refine .next (.seq (.sr (.move ?_)))
  refine .nei (.z ?_)
  refine .condF rfl rfl ?_
  refine .skip (.next (.seq ?_))
  refine .dr ([pt s (stO c a p),row b 215 (ndL x)]) [] 17 mixed .autoJ ?_
  refine .tk 0 rfl .move ?_
  refine .tk 1 rfl .nilCheck ?_
  refine .tk 2 rfl (.fa dw) ?_
  refine .tk 3 rfl (.ld dj) ?_
  refine .tk 4 rfl .move ?_
  refine .tk 5 rfl .nilCheck ?_
  refine .tk 6 rfl (.fa i0) ?_
  refine .tk 7 rfl (.idxA ur) ?_
  refine .tk 8 rfl (Qt.ldL (xs:=ndL x) (i:=12) (v:=nI (x.bl.getD 10 0)) sc3 (vg (k:=10) (by omega))) ?_
  refine .tk 9 rfl .move ?_
  refine .tk 10 rfl .move ?_
  refine .tk 11 rfl .sub ?_
  refine .tk 12 rfl ((Qt.mul).eq (v':=nI (4 * (k - 10))) (cI9 (by omega))) ?_
  refine .tk 13 rfl .move ?_
  refine .on 14 rfl fun hnp=>?_
  refine .call (hc:=Tryz.call213) (sp:=Hy (q:=4 * (k - 10)) (v:=p.da+q) Reads.buf hl5 (by decide) (by omega) (by omega)) (h:=?_)
  rintro _ _ ⟨gc,kc,⟨rfl,hc1,hc2⟩,rfl⟩
  refine .nil (.wa hnp ?_)
  refine .on 15 rfl fun hnp=>?_
  refine .call (hc:=Tryz.call78) (sp:=nz (n:=p.n) (V0:=V0) (V:=frV p (V) q) (D:=frD p (D) q) (k:=x.bl.getD 10 0) (by omega) (by omega) Reads.buf ((bu _ _ _).trans hl5) rfl (.inr hroom)) (h:=?_)
  rintro _ _ ⟨rfl,rfl⟩
  refine .nil (.wa hnp ?_)
  refine .tk 16 rfl .assign ?_
  refine .fin ?_
  refine .next (.ret (?_))
  exact .ret1 (h1:=.tmp (t:=6) rfl) ⟨_,⟨_,_,_,Th h ho hdk hi hc hk hq hqd,rfl,rfl⟩,Am.auto⟩
theorem Qq {s c a:Nat} {p:Pl} {V0 V:Nat->aa} {D:List Nat} {nd:NF} {i at' m cc:Nat} {x:Nd} {S:Nat->Bool} {R:HP} {A:Option Addr} {bs:aa} (h:Inv p V nd) (ho:PlOk p) (hi:nd i=some (x,S)) (hdk:Dk p D) (hrm:Rm p D ((bs.length+511) / 512+2)) (hR:bs=[] ∨ Reads R A (bvs bs)) (hm:bs.length=m) (hcc:m<=cc) (hcb:cc<=maxLen)
  (hS:∀ k,at' / 512<=k->512 * k < at'+m->S k=true/\k < 138) (hat:at'<=70656) (hm2:m<=70656) :
  Spec Tryz.prog 229 #[.pointer (some ⟨s,0,none⟩),ndV x,nI at',.slice A m cc] [R,pt s (stO c a p),TR c p.n V0 V D true] fun F v M=>∃ V' D',LayR p V V' x at' (at'+m) bs/\(Dk p D'/\wt p D'<=wt p D+(m+511) / 512+1)/\v=okV/\M=[R,pt s (stO c a p),TR c p.n V0 V' D' true]++F:=by
 refine Spec.intro Tryz.func229 rfl rfl fun B F=>?_
 simp only [Tryz.ntmps229,List.cons_append,List.nil_append,env0,Nat.reduceAdd]
 have hlo:=ho.lo
 have hdat:=ho.dat
 have hfx:=h.fits i x _ hi
 have hbl:=hfx.bl
 have hrng:=fun k hk=>h.rng i x S k hi hk
 have hsok:=h.sok i x S hi
 have hmx:maxLen=9223372036854775807:=rfl
 refine .sr ?_
 refine .boxL (us:=ndL x) fun b5=>?_
 refine .assign (.z (.seq (.block ?_)))
 refine .loopA (σ:=Nat×Option Addr×Nat×(Nat->aa)×List Nat) (fun y=>[(0,.pointer (some ⟨s,0,none⟩)),(2,nI (at'+y.1)),(3,.slice y.2.1 (m - y.1) y.2.2.1),(5,.pointer (some ⟨b5,0,none⟩))]) (fun y=>[row b5 215 (ndL x),R,pt s (stO c a p),TR c p.n V0 y.2.2.2.1 y.2.2.2.2 true]++F) (fun y=>y.1<=m/\(bs.drop y.1=[] ∨ Reads R y.2.1 (bvs (bs.drop y.1)))/\LayR p V y.2.2.2.1 x at' (at'+y.1) bs/\Dk p y.2.2.2.2/\(∃ t,wt p y.2.2.2.2<=wt p D+t/\((y.1=0/\t=0) ∨ (y.1=m/\t<=(m+511) / 512+1) ∨ ((at'+y.1) % 512=0/\t=(at'+y.1) / 512 - at' / 512)))/\m - y.1<=y.2.2.1/\y.2.2.1<=maxLen) (fun y=>m - y.1) (0,A,cc,V,D) ⟨Nat.zero_le _,by rw [List.drop_zero];exact hR,LayR.nil h.len x at' bs,hdk,⟨0,Nat.le_refl _,.inl ⟨rfl,rfl⟩⟩,by show m - 0<=cc;omega,hcb⟩ ?_
 rintro ⟨dn,A1,c1,V1,D1⟩ hy
 obtain ⟨hdn,hA,hlay,hdk1,⟨t,hw1,ht⟩,hc1,hc2⟩:=hy
 simp only at hdn hA hlay hdk1 hw1 ht hc1 hc2
 refine .seq (.sr (.move ?_))
 refine .lenS ?_ sl79
 refine .gtr (.z ?_)
 refine .cond rfl (fun hb=>?_) (fun hb=>?_)
 ·have hlt:dn < m:=by have:=of_decide_eq_true hb;omega
  obtain ⟨hSk,hk138⟩:=hS ((at'+dn) / 512) (by omega) (by omega)
  have hpr:=hrng _ hSk
  have hst:=hlay.stp h ho hi (by omega) (fun k h1 h2=>hS k h1 (by omega))
  have hpk:=hst.2.2.2.1 _ hSk
  have hA0:=hA.resolve_left (by intro h0;have:=congrArg List.length h0;simp at this;omega)
  rcases A1 with _ | ⟨ab,ao,asp⟩
  ·exact absurd hA0 (fun h0=>by have h2:bvs (bs.drop dn)=[]:=h0;have:=congrArg List.length h2;simp [bvs] at this;omega)
  have hsp:asp=none:=hA0.1
  subst hsp
  have hV200:10<=(at'+dn) / 512->245<=x.bl.getD 10 0/\x.bl.getD 10 0 < p.n:=fun h10=>by
   have:=hrng 200 (hsok.ind _ hSk h10)
   rw [dq] at this
   omega
  obtain ⟨mm,hmm⟩:∃ mm,mm=min (m - dn) (512 - (at'+dn) % 512):=⟨_,rfl⟩
  have hroom:Room D1:=hdk1.room (c:=0) (hrm.mono (by omega))
  have hinj:∀ k l,at' / 512<=k->512 * k < at'+dn+mm->at' / 512<=l->512 * l < at'+dn+mm->ptr V x k=ptr V x l->k=l:=fun k l h1 h2 h3 h4 he=>(h.inj i x S k i x S l hi (hS k h1 (by omega)).1 hi (hS l h3 (by omega)).1 he).2
  have hstep:=hlay.step (m:=mm) (by omega) (by omega) (by omega) (by omega) hk138 hinj
  rw [show at'+dn - at'=dn from by omega] at hstep
  have hyl:(bs.drop dn).length=m - dn:=by rw [List.length_drop];omega
  have hpl:((bs.drop dn).take mm).length=mm:=by rw [List.length_take];omega
  refine .skip (.next (.block (.sr (.move ?_))))
  refine .ldW (xs:=ndL x) ?_ dv (au hbl)
  refine .move ?_
  refine .quo ?_
  refine .cast (d:=21) (u:=nI ((at'+dn) / 512)) rfl (cI9 (by omega)) ?_
  refine .call (hc:=Tryz.call238) (sp:=inBlock (x:=x) (k:=(at'+dn) / 512) (V0:=V0) (V:=V1) (D:=D1) (op:=true) hbl hk138 hV200) (h:=?_)
  rintro _ _ ⟨rfl,rfl⟩
  rw [hpk]
  simp only [List.cons_append,List.nil_append]
  refine .move ?_
  refine .extract (.extract ?_)
  refine .assign (.assign (.z (.seq (.sr (.move ?_)))))
  refine .nei (.z ?_)
  refine .condF rfl rfl ?_
  refine .skip (.next (.sr (.move (.nilCheck ?_))))
  refine .fa ?_ dw
  refine .ld ?_ dj
  refine .move ?_
  refine .call (hc:=Tryz.call212) (sp:=pf (n:=p.n) (V0:=V0) (V:=V1) (D:=D1) (op:=true) (k:=ptr V x ((at'+dn) / 512)) (by omega) (by omega)) (h:=?_)
  rintro _ _ ⟨gb,q,el,rfl,⟨hq1,hq2,hl5⟩,rfl⟩
  refine .move ?_
  refine .extract (.extract ?_)
  refine .assign (.assign (.z (.seq (.sr (.move ?_)))))
  refine .nei (.z ?_)
  refine .condF rfl rfl ?_
  refine .skip (.next (.sr (.move (.move ?_))))
  refine .rem ?_
  refine .cast (d:=42) (u:=nI ((at'+dn) % 512)) rfl (cI9 (by omega)) ?_
  refine .slcL ?_ so79
  refine .cast (d:=43) (u:=.slice (some ⟨gb,(at'+dn) % 512,none⟩) (512 - (at'+dn) % 512) (q - (at'+dn) % 512)) rfl (by rw [show ((((at'+dn) % 512:Nat)):Int).toNat=(at'+dn) % 512 from Int.toNat_natCast _,if_neg (by omega),Nat.zero_add,Nat.mul_one]) ?_
  refine .move ?_
  refine .copy (m:=m - dn) (xs:=bvs (V1 (ptr V x ((at'+dn) / 512)))) (ys:=bvs (bs.drop dn)) so79 hA0 (by rw [ag];exact hyl) (bo _) ?_ (hdl:=by rw [ag,hl5];omega)
  refine .cast (d:=45) (u:=nI mm) rfl (by rw [hmm];rfl) ?_
  refine .to (A:=buf gb el q ((bvs (V1 (ptr V x ((at'+dn) / 512)))).take ((at'+dn) % 512)++(bvs (bs.drop dn)).take (min (m - dn) (512 - (at'+dn) % 512))++(bvs (V1 (ptr V x ((at'+dn) / 512)))).drop ((at'+dn) % 512+min (m - dn) (512 - (at'+dn) % 512)))) (A':=buf gb el q (bvs (mo (V1 (ptr V x ((at'+dn) / 512))) ((at'+dn) % 512) ((bs.drop dn).take mm)))) (fun h hh=>by rw [<- hmm] at hh;unfold mo;rw [bj,bj,ck,ck,ei (V1 (ptr V x ((at'+dn) / 512))),hpl];exact hh) ?_
  refine .assign (.z (.seq (.sr (.move (.nilCheck ?_)))))
  refine .fa ?_ dw
  refine .ld ?_ dj
  refine .move (.move ?_)
  refine .call (hc:=Tryz.call78) (sp:=nz (n:=p.n) (V0:=V0) (V:=V1) (D:=D1) (k:=ptr V x ((at'+dn) / 512)) (by omega) (by omega) Reads.buf ((jx (xs:=V1 (ptr V x ((at'+dn) / 512))) (off:=(at'+dn) % 512) (ys:=(bs.drop dn).take mm) (by rw [hpl,hl5];omega)).trans hl5) rfl (.inr hroom)) (h:=?_)
  rintro _ _ ⟨rfl,rfl⟩
  refine .assign (.x (.move ?_))
  refine .nei (.z ?_)
  refine .condF rfl rfl ?_
  refine .skip (.next ?_)
  refine .dr ([]) [] 8 mixed .autoJ ?_
  refine .tk 0 rfl .move ?_
  refine .tk 1 rfl .move ?_
  refine .tk 2 rfl ((Qt.add).eq (v':=nI (at'+(dn+mm))) (cI9 (by omega))) ?_
  refine .tk 3 rfl .move ?_
  refine .tk 4 rfl .move ?_
  refine .tk 5 rfl ((Qt.slcL so79).eq (v':=.slice (if c1=mm then some ⟨ab,ao,none⟩ else some ⟨ab,ao+mm * 1,none⟩) (m - (dn+mm)) (c1 - mm)) (by rw [show ((mm:Nat):Int).toNat=mm from Int.toNat_natCast _,Nat.sub_sub])) ?_
  refine .tk 6 rfl .assign ?_
  refine .tk 7 rfl .assign ?_
  refine .fin ?_
  refine .blockNormal ?_
  have hrest:bs.drop (dn+mm)=[] ∨ Reads R (if c1=mm then some ⟨ab,ao,none⟩ else some ⟨ab,ao+mm * 1,none⟩) (bvs (bs.drop (dn+mm))):=by
   by_cases hcm:c1=mm
   ·exact .inl (List.drop_eq_nil_of_le (by omega))
   ·rw [if_neg hcm,Nat.mul_one,<-List.drop_drop,ei]
    exact .inr (hA0.drop mm)
  have hin:=C4 hdk1 (v:=ptr V x ((at'+dn) / 512)) (by omega) (by omega)
  exact .back (dn+mm,if c1=mm then some ⟨ab,ao,none⟩ else some ⟨ab,ao+mm * 1,none⟩,c1 - mm,_,insD D1 (ptr V x ((at'+dn) / 512))) ⟨by show dn+mm<=m;omega,hrest,by rw [show at'+(dn+mm)=at'+dn+mm from by omega];exact hstep,hin.1,⟨t+1,by show wt p (insD D1 _)<=_;omega,by show (dn+mm=0/\_) ∨ (dn+mm=m/\_) ∨ ((at'+(dn+mm)) % 512=0/\_);omega⟩,by show m - (dn+mm)<=c1 - mm;omega,by show c1 - mm<=maxLen;omega⟩ (by show m - (dn+mm) < m - dn;omega)
 ·have hge:¬ dn < m:=by have:=of_decide_eq_false hb;omega
  have hdm:dn=m:=by omega
  subst hdm
  refine .exit (.thenExit (.thenExit (.blockExit (?_))))
  refine .next (.sr (.assign (.z (.ret (?_)))))
  exact .ret1 (h1:=.tmp (t:=8) rfl) ⟨_,⟨_,_,hlay,⟨hdk1,by omega⟩,rfl,rfl⟩,Am.auto⟩
def hs (k:Nat):Nat:=k+(if 10 < k then 1 else 0)
theorem ln (n:Nat):has n=hs (dat n):=by
 unfold has hs
 split
 ·rw [if_neg (by omega)];rfl
 ·rw [if_pos (by omega)]
theorem H8 (k:Nat):hs (k+1)=hs k+(if k=10 then 2 else 1):=by
 unfold hs
 by_cases h:k=10
 ·subst h;rfl
 ·rw [if_neg h]
  by_cases h2:10 < k
  ·rw [if_pos h2,if_pos (by omega)]
  ·rw [if_neg h2,if_neg (by omega)]
theorem Bl {j k:Nat} (h:j<=k):hs j<=hs k:=by
 unfold hs
 split<;>split<;>omega
theorem C5 {j k:Nat} (h:j<=k):dat j<=dat k:=by unfold dat;omega
structure GrI (p:Pl) (V V1:Nat->aa) (nd:NF) (i:Nat) (x:Nd) (D D1:List Nat):Prop where
 inv:Inv p V1 nd
 kp:Kp p V V1 nd i
 cn:cnt V1 p.bm p.dc=cnt V p.bm p.dc
 old:∀ q,q < x.sz->fb V1 x q=fb V x q
 new:∀ q,x.sz<=q->q < 512 * dat x.sz->fb V1 x q=0
 dk:Dk p D1
 wt:wt p D1<=wt p D+2
structure GrL (p:Pl) (V V1:Nat->aa) (nd:NF) (i:Nat) (x x1:Nd) (D D1:List Nat) (k:Nat):Prop where
 inv:Inv p V1 (updF nd i (some (x1,stdS k)))
 kp:Kp p V V1 nd i
 kd:x1.kd=x.kd
 sz:x1.sz=x.sz
 cn:cnt V1 p.bm p.dc+hs (dat x.sz)=cnt V p.bm p.dc+hs k
 old:∀ q,q < x.sz->fb V1 x1 q=fb V x q
 new:∀ q,x.sz<=q->q < 512 * k->fb V1 x1 q=0
 dk:Dk p D1
 wt:wt p D1+hs (dat x.sz)<=wt p D+2+hs k+(if 10 < k/\x1.bl.getD 10 0∈D1 then 1 else 0)
structure GrowP (p:Pl) (V V1:Nat->aa) (nd:NF) (i:Nat) (x x1:Nd) (D D1:List Nat) (size:Nat):Prop where
 inv:Inv p V1 (updF nd i (some (x1,stdS (dat size))))
 kp:Kp p V V1 nd i
 kd:x1.kd=x.kd
 sz:x1.sz=size
 cn:cnt V1 p.bm p.dc+has x.sz=cnt V p.bm p.dc+has size
 byt:∀ q,q < size->fb V1 x1 q=if q < x.sz then fb V x q else 0
 dk:Dk p D1
 wt:wt p D1+has x.sz<=wt p D+3+has size
theorem H9 {nd:NF} {i:Nat} {y:Option (Nd×(Nat->Bool))} (h:nd i=y):updF nd i y=nd:=by
 funext j
 unfold updF
 split
 ·rename_i hj;rw [hj,h]
 ·rfl
theorem GrI.refl {p:Pl} {V:Nat->aa} {nd:NF} {i:Nat} {x:Nd} {D:List Nat} (h:Inv p V nd) (hr:x.sz % 512=0) (hd:Dk p D):GrI p V V nd i x D D :=
 ⟨h,Kp.refl _ _ _ _,rfl,fun _ _=>rfl,fun q h1 h2=>by unfold dat at h2;omega,hd,by omega⟩
theorem GrI.of {p:Pl} {V V1:Nat->aa} {nd:NF} {i:Nat} {x:Nd} {D D1:List Nat} (h:Inv p V nd) (ho:PlOk p) (hi:nd i=some (x,stdS (dat x.sz))) (hb:x.sz<=70656) (hr:0 < x.sz % 512)
  (hl:LayR p V V1 x x.sz (x.sz+(512 - x.sz % 512)) (List.replicate (512 - x.sz % 512) 0)) (hd:Dk p D1) (hw:Go.Proofs.YtmihjfcbofejoaaGreatDoor.wt p D1<=Go.Proofs.YtmihjfcbofejoaaGreatDoor.wt p D+(512 - x.sz % 512+511) / 512+1):GrI p V V1 nd i x D D1:=by
 have hm:=qk hb
 have hdat:512 * dat x.sz=x.sz+(512 - x.sz % 512):=by unfold dat;omega
 obtain ⟨h1,h2,h3,h4,h5⟩:=hl.stp h ho hi (by omega) (fun k k1 k2=>⟨stdS_iff.2 (.inl (by unfold dat at *;omega)),by unfold dat at *;omega⟩)
 have hS:∀ q,q < 512 * dat x.sz->q / 512 < 138/\stdS (dat x.sz) (q / 512)=true:=fun q hq=>⟨by omega,stdS_iff.2 (.inl (by omega))⟩
 refine ⟨h1,h2,xh h3,fun q hq=>?_,fun q k1 k2=>?_,hd,by omega⟩
 ·obtain ⟨e1,e2⟩:=hS q (by omega)
  rw [h5 q e1 e2,if_neg (by omega)]
 ·obtain ⟨e1,e2⟩:=hS q k2
  rw [h5 q e1 e2,if_pos ⟨k1,by omega⟩,List.getD_eq_getElem?_getD,List.getElem?_replicate]
  split<;>rfl
theorem GrI.begin {p:Pl} {V V1:Nat->aa} {nd:NF} {i:Nat} {x:Nd} {D D1:List Nat} (h:GrI p V V1 nd i x D D1) (hi:nd i=some (x,stdS (dat x.sz))):GrL p V V1 nd i x x D D1 (dat x.sz) :=
 ⟨by rw [H9 hi];exact h.inv,h.kp,rfl,rfl,by rw [h.cn],h.old,h.new,h.dk,by have:=h.wt;omega⟩
theorem GrL.step {p:Pl} {V V1 V2:Nat->aa} {nd:NF} {i:Nat} {x x1 x2:Nd} {D D1 D2:List Nat} {k:Nat} (h0:Inv p V nd) (h:GrL p V V1 nd i x x1 D D1 k) (hk:dat x.sz<=k) (hk2:k < 138) (ht:TakeP p V1 V2 (updF nd i (some (x1,stdS k))) i x1 x2 D1 D2 k):GrL p V V2 nd i x x2 D D2 (k+1):=by
 have hfb:∀ q,q < 512 * k->fb V2 x2 q=fb V1 x1 q:=fun q hq=>ht.stp.fb (by omega) (stdS_iff.2 (.inl (by omega))) (stdS_iff.2 (.inl (by omega)))
 have hsz:x.sz<=512 * k:=by unfold dat at hk;omega
 have e1:=H8 k
 have e2:=ht.wt
 have e3:=h.wt
 refine ⟨?_,?_,ht.stp.kd.trans h.kd,ht.stp.sz.trans h.sz,?_,fun q hq=>?_,fun q k1 k2=>?_,ht.dk,?_⟩
 ·have:=ht.stp.inv
  rwa [zf] at this
 ·exact h.kp.trans ht.stp.kp h0.sok (fun j hj=>a7 _ _ hj)
 ·have:=h.cn
  have:=ht.cn
  omega
 ·rw [hfb q (by omega),h.old q hq]
 ·by_cases hq:q < 512 * k
  ·rw [hfb q hq];exact h.new q k1 hq
  ·have:=ht.new (q - 512 * k) (by omega)
   rwa [show 512 * k+(q - 512 * k)=q from by omega] at this
 ·by_cases c:10<=k
  ·have e4:=ht.ind c
   rw [if_pos ⟨by omega,e4⟩]
   by_cases c2:10 < k
   ·rw [if_pos c2,if_neg (show ¬ k=10 by omega)] at e2
    rw [if_neg (show ¬ k=10 by omega)] at e1
    by_cases c3:x1.bl.getD 10 0∈D1
    ·rw [if_pos ⟨c2,c3⟩] at e2 e3;omega
    ·rw [if_neg (fun hh=>c3 hh.2)] at e2 e3;omega
   ·rw [if_neg c2,if_neg (fun hh=>c2 hh.1)] at e2
    rw [if_neg (fun hh=>c2 hh.1)] at e3
    omega
  ·rw [if_neg (by omega),if_neg (by omega),if_neg (by omega)] at e2
   rw [if_neg (by omega)] at e3
   rw [if_neg (by omega)] at e1
   rw [if_neg (by omega)]
   omega
theorem GrL.done {p:Pl} {V V1:Nat->aa} {nd:NF} {i:Nat} {x x1:Nd} {D D1:List Nat} {size:Nat} (h:GrL p V V1 nd i x x1 D D1 (dat size)) (hs1:x.sz<=size) (hs2:size<=70656):GrowP p V V1 nd i x ⟨x1.kd,size,x1.bl⟩ D D1 size:=by
 have e3:=h.wt
 have hfx:=h.inv.fits i x1 _ (ay ..)
 refine ⟨?_,h.kp,h.kd,rfl,by rw [ln,ln];exact h.cn,fun q hq=>?_,h.dk,?_⟩
 ·refine h.inv.same h.inv.len (fun _ _=>rfl) (fun _ _=>rfl) fun j=>?_
  by_cases hj:j=i
  ·subst hj
   refine .inr ⟨x1,_,stdS (dat size),ay ..,ay ..,⟨hfx.bl,fun v hv=>?_⟩,fun _ _=>rfl⟩
   simp only [Nd.nums,List.mem_cons] at hv
   rcases hv with rfl | rfl | hv
   ·exact hfx.lt _ (by simp [Nd.nums])
   ·omega
   ·exact hfx.lt _ (by simp [Nd.nums,hv])
  ·rw [a7 _ _ hj,a7 _ _ hj]
   cases hn:nd j with
   | none=>exact .inl ⟨rfl,rfl⟩
   | some y =>
    obtain ⟨y,T⟩:=y
    exact .inr ⟨y,y,T,rfl,rfl,h.inv.fits j y T (by rw [a7 _ _ hj];exact hn),fun _ _=>rfl⟩
 ·show fb V1 x1 q=_
  split
  ·rename_i hlt;exact h.old q hlt
  ·rename_i hge;exact h.new q (by omega) (by unfold dat;omega)
 ·rw [ln,ln]
  split at e3<;>omega
theorem Tj {s c a:Nat} {p:Pl} {V0 V:Nat->aa} {D:List Nat} {nd:NF} {i b size:Nat} {x:Nd} (h:Inv p V nd) (ho:PlOk p) (hi:nd i=some (x,stdS (dat x.sz))) (hdk:Dk p D) (hs1:x.sz < size) (hs2:size<=70656) (hrm:Rm p D (has size - has x.sz+6)) :
  Spec Tryz.prog 228 #[.pointer (some ⟨s,0,none⟩),.pointer (some ⟨b,0,none⟩),nI size] [pt s (stO c a p),pt a (alO c p),TR c p.n V0 V D true,row b 215 (ndL x)] fun F v M =>
   (p.dc+has x.sz < cnt V p.bm p.dc+has size/\v=.int .i64 3/\M=[pt s (stO c a p),pt a (alO c p),TR c p.n V0 V D true,row b 215 (ndL x)]++F) ∨
   (cnt V p.bm p.dc+has size<=p.dc+has x.sz/\∃ x' V' D',GrowP p V V' nd i x x' D D' size/\v=okV/\M=[pt s (stO c a p),pt a (alO c p),TR c p.n V0 V' D' true,row b 215 (ndL x')]++F):=by
 refine Spec.intro Tryz.func228 rfl rfl fun B F=>?_
 simp only [Tryz.ntmps228,List.cons_append,List.nil_append,env0,Nat.reduceAdd]
 have hlo:=ho.lo
 have hdat:=ho.dat
 have hfx:=h.fits i x _ hi
 have hbl:=hfx.bl
 have hnl:=au hbl
 have hd1:=qk (show x.sz<=70656 by omega)
 have hd2:=qk hs2
 have hdm:=C5 (show x.sz<=size by omega)
 have hhm:has x.sz<=has size:=by rw [ln,ln];exact Bl hdm
 have hcl:=Ho V p.bm p.dc
 have hhb:has size<=139:=by rw [ln];unfold hs;split<;>omega
 have hhb2:has x.sz<=139:=by omega
 have hszg:(ndL x)[1]?=some (nI x.sz):=rfl
 refine .sr (.assign (.z (.seq (.sr (.move ?_)))))
 refine .nilCheck ?_
 refine .fa ?_ ph
 refine .ld ?_ lb
 refine .call (hc:=Tryz.call249) (sp:=S9 (V0:=V0) (V:=V) (D:=D) (op:=true) ho) (h:=?_)
 rintro _ _ ⟨rfl,rfl⟩
 simp only [List.cons_append,List.nil_append]
 refine .move ?_
 refine .extract (.extract (.assign (.assign (.z (.seq ?_)))))
 refine .dr ([row b 215 (ndL x)]) [] 10 mixed .autoJ ?_
 refine .tk 0 rfl .move ?_
 refine .tk 2 rfl .move ?_
 refine .tk 3 rfl .nilCheck ?_
 refine .tk 4 rfl (.fa d5) ?_
 refine .tk 5 rfl (Qt.ldL (xs:=ndL x) (i:=1) sc3 hszg) ?_
 refine .tk 8 rfl .move ?_
 refine .on 1 rfl fun hnp=>?_
 refine .call (hc:=Tryz.call250) (sp:=Td (k:=size) (by omega)) (h:=?_)
 rintro _ _ ⟨rfl,rfl⟩
 refine .nil (.wa hnp ?_)
 refine .on 6 rfl fun hnp=>?_
 refine .call (hc:=Tryz.call250) (sp:=Td (k:=x.sz) (by omega)) (h:=?_)
 rintro _ _ ⟨rfl,rfl⟩
 refine .nil (.wa hnp ?_)
 refine .tk 7 rfl .sub ?_
 refine .tk 9 rfl .gtr ?_
 refine .fin ?_
 by_cases hfull:p.dc+has x.sz < cnt V p.bm p.dc+has size
 ·refine .next ?_
  refine .condT rfl (cB9 (by first|simp;done|simp;omega|omega)) ?_
  refine .sr (.assign (.z ?_))
  refine .ret (.thenRet (?_))
  exact .ret1 (h1:=.tmp (t:=6) rfl) ⟨_,.inl ⟨hfull,rfl,rfl⟩,Am.auto⟩
 ·refine .next ?_
  refine .condF rfl (cB9 (by first|simp;done|simp;omega|omega)) ?_
  refine .skip (.next (.seq (.sr (.move (.nilCheck ?_)))))
  refine .fa ?_ d5
  refine .ldL (xs:=ndL x) (i:=1) ?_ sc3 hszg
  refine .rem ?_
  refine .cast (d:=35) (u:=nI (x.sz % 512)) rfl (cI9 (by omega)) ?_
  refine .assign (.x (.move ?_))
  refine .gtr (.z ?_)
  refine .join (σ:=(Nat->aa)×List Nat) (fun y=>[(0,.pointer (some ⟨s,0,none⟩)),(1,.pointer (some ⟨b,0,none⟩)),(2,nI size)]) (fun y=>[pt s (stO c a p),pt a (alO c p),TR c p.n V0 y.1 y.2 true,row b 215 (ndL x)]++F) (fun y=>GrI p V y.1 nd i x D y.2) ?_ ?_
  ·by_cases hr:0 < x.sz % 512
   ·refine .condT rfl (cB9 (by first|simp;done|simp;omega|omega)) ?_
    refine .seq ?_
    refine .dr ([row b 215 (ndL x)]) [] 13 mixed .autoJ ?_
    refine .tk 0 rfl .move ?_
    refine .tk 1 rfl .move ?_
    refine .tk 2 rfl .nilCheck ?_
    refine .tk 3 rfl (Qt.ldW (xs:=ndL x) dv hnl) ?_
    refine .tk 4 rfl .move ?_
    refine .tk 5 rfl .nilCheck ?_
    refine .tk 6 rfl (.fa d5) ?_
    refine .tk 7 rfl (Qt.ldL (xs:=ndL x) (i:=1) sc3 hszg) ?_
    refine .tk 8 rfl .move ?_
    refine .tk 9 rfl ((Qt.sub).eq (v':=.int .i64 ((512 - x.sz % 512:Nat):Int)) (cI9 (by omega))) ?_
    refine .on 10 rfl fun hnp=>?_
    refine .mkS (k:=((512 - x.sz % 512:Nat):Int)) z5 (fun b48=>?_) so79 (by omega) (by omega) (by omega)
    refine .to (A:=buf b48 5 ((512 - x.sz % 512:Nat):Int).toNat (List.replicate ((512 - x.sz % 512:Nat):Int).toNat (.int .u8 0))) (A':=buf b48 5 (512 - x.sz % 512) (bvs (List.replicate (512 - x.sz % 512) 0))) (fun h hh=>by rw [bw];rw [Int.toNat_natCast] at hh;exact hh) ?_
    refine .nil (.wa hnp ?_)
    refine .on 11 rfl fun hnp=>?_
    refine .call (hc:=Tryz.call229) (sp:=Qq (x:=x) (at':=x.sz) (bs:=List.replicate (512 - x.sz % 512) 0) (V0:=V0) (V:=V) (D:=D) h ho hi hdk (hrm.mono (by rw [List.length_replicate];omega)) (.inr Reads.buf) List.length_replicate (Nat.le_refl _) (by unfold maxLen;omega) (fun k k1 k2=>⟨stdS_iff.2 (.inl (by unfold dat at *;omega)),by unfold dat at *;omega⟩) (by omega) (by omega)) (h:=?_)
    rintro _ _ ⟨V1,D1,hlay,⟨hdk1,hw1⟩,rfl,rfl⟩
    simp only [List.cons_append,List.nil_append]
    refine .nil (.wa hnp ?_)
    refine .tk 12 rfl .assign ?_
    refine .fin ?_
    refine .next (.sr (.move ?_))
    refine .nei (.z ?_)
    refine .condF rfl rfl ?_
    refine .skip ?_
    exact .joined (V1,D1) (GrI.of h ho hi (by omega) hr hlay hdk1 hw1)
   ·refine .condF rfl (cB9 (by first|simp;done|simp;omega|omega)) ?_
    refine .skip ?_
    exact .joined (V,D) (GrI.refl h (by omega) hdk)
  ·rintro ⟨V1,D1⟩ hI
   have hinv1:=hI.inv
   refine .next (.seq (.sr (.move (.nilCheck ?_))))
   refine .fa ?_ d5
   refine .ldL (xs:=ndL x) (i:=1) ?_ sc3 hszg
   refine .call (hc:=Tryz.call237) (sp:=zc (k:=x.sz) (by omega)) (h:=?_)
   rintro _ _ ⟨rfl,rfl⟩
   refine .assign (.z (.block ?_))
   refine .loopA (σ:=Nat×Nd×(Nat->aa)×List Nat) (fun y=>[(0,.pointer (some ⟨s,0,none⟩)),(1,.pointer (some ⟨b,0,none⟩)),(2,nI size),(11,nI y.1)]) (fun y=>[pt s (stO c a p),pt a (alO c p),TR c p.n V0 y.2.2.1 y.2.2.2 true,row b 215 (ndL y.2.1)]++F) (fun y=>dat x.sz<=y.1/\y.1<=dat size/\GrL p V y.2.2.1 nd i x y.2.1 D y.2.2.2 y.1) (fun y=>dat size - y.1) (dat x.sz,x,V1,D1) ⟨Nat.le_refl _,hdm,hI.begin hi⟩ ?_
   rintro ⟨k,x1,V1,D1⟩ hy
   obtain ⟨hk1,hk2,hL⟩:=hy
   simp only at hk1 hk2 hL
   refine .seq (.sr (.move (.move ?_)))
   refine .call (hc:=Tryz.call237) (sp:=zc (k:=size) (by omega)) (h:=?_)
   rintro _ _ ⟨rfl,rfl⟩
   refine .lss (.z ?_)
   refine .cond rfl (fun hb=>?_) (fun hb=>?_)
   ·have hlt:k < dat size:=by have:=of_decide_eq_true hb;omega
    have hcnl:=hL.cn
    have hwtl:=hL.wt
    have hss:=H8 k
    have hss2:hs (k+1)<=hs (dat size):=Bl hlt
    have hhs1:=ln x.sz
    have hhs2:=ln size
    refine .skip (.next (.seq (.block (.sr (.move (.move (.move ?_)))))))
    refine .call (hc:=Tryz.call251) (sp:=Ti (i:=i) (b:=b) (k:=k) (x:=x1) (V0:=V0) (V:=V1) (D:=D1) hL.inv ho (ay ..) (by omega) hL.dk (hrm.mono (by split at hwtl<;>omega)) (by omega)) (h:=?_)
    rintro _ _ ⟨x2,V2,D2,hT,rfl,rfl⟩
    simp only [List.cons_append,List.nil_append]
    refine .assign (.x (.move ?_))
    refine .nei (.z ?_)
    refine .condF rfl rfl ?_
    refine .skip (.blockNormal (.next (.region (.move ?_))))
    refine .add ?_
    refine .assign (.nil ?_)
    refine .cast (d:=11) (u:=nI (k+1)) rfl (cI9 (by omega)) ?_
    exact .back (k+1,x2,V2,D2) ⟨by show dat x.sz<=k+1;omega,by show k+1<=dat size;omega,hL.step h hk1 (by omega) hT⟩ (by show dat size - (k+1) < dat size - k;omega)
   ·have hge:¬ k < dat size:=by have:=of_decide_eq_false hb;omega
    have hke:k=dat size:=by omega
    subst hke
    have hfx1:=hL.inv.fits i x1 _ (ay ..)
    refine .exit (.thenExit (.thenExit (.blockExit (?_))))
    refine .next (.sr (.move (.move (.nilCheck ?_))))
    refine .fa ?_ d5
    refine .stL (xs:=ndL x1) (i:=1) ?_ sc3 (by rw [au hfx1.bl];decide)
    refine .to (A:=row b 215 ((ndL x1).set 1 (nI size))) (A':=row b 215 (ndL ⟨x1.kd,size,x1.bl⟩)) (fun h hh=>hh) ?_
    refine .x (.assign (.z (.ret (?_))))
    exact .ret1 (h1:=.tmp (t:=6) rfl) ⟨_,.inr ⟨by omega,_,_,_,hL.done (by omega) hs2,rfl,rfl⟩,Am.auto⟩
theorem Inv.inode {p:Pl} {V V':Nat->aa} {nd:NF} (h:Inv p V nd) (ho:PlOk p) {i:Nat} (hi:i < p.ino) (y:Option (Nd×(Nat->Bool))) (hold:∀ x S,nd i=some (x,S)->∀ k,S k=false) (hy:∀ x S,y=some (x,S)->Fits x/\∀ k,S k=false)
  (h5:Len5 V') (hV:∀ v,p.bm<=v->V' v=V v) (hd:∀ j,j < p.ino->dig V' p.im j=if j=i then y.isSome else dig V p.im j):Inv p V' (updF nd i y):=by
 have hlo:=ho.lo
 have get:∀ j z T k,updF nd i y j=some (z,T)->T k=true->nd j=some (z,T)/\ptr V' z k=ptr V z k:=by
  intro j z T k hj hk
  by_cases hji:j=i
  ·subst hji
   rw [ay] at hj
   have:=(hy z T hj).2 k
   rw [hk] at this;cases this
  ·rw [a7 _ _ hji] at hj
   exact ⟨hj,d2 (h.sok j z T hj) (fun h2=>hV _ (by have:=h.rng j z T 200 hj h2;rw [dq] at this;omega)) hk⟩
 refine ⟨h5,?_,?_,?_,?_,?_,?_,?_⟩
 ·intro j z T hj
  by_cases hji:j=i
  ·subst hji;rw [ay] at hj;exact (hy z T hj).1
  ·rw [a7 _ _ hji] at hj;exact h.fits j z T hj
 ·intro j z T hj
  by_cases hji:j=i
  ·subst hji;rw [ay] at hj
   have:=(hy z T hj).2
   exact ⟨fun k hk=>(by rw [this k] at hk;cases hk),fun k hk=>(by rw [this k] at hk;cases hk)⟩
  ·rw [a7 _ _ hji] at hj;exact h.sok j z T hj
 ·intro j z T hj
  by_cases hji:j=i
  ·subst hji;exact hi
  ·rw [a7 _ _ hji] at hj;exact h.lt j z T hj
 ·intro j z T k hj hk
  obtain ⟨h1,h2⟩:=get j z T k hj hk
  rw [h2];exact h.rng j z T k h1 hk
 ·intro j z T k j' z' T' k' hj hk hj' hk' he
  obtain ⟨h1,h2⟩:=get j z T k hj hk
  obtain ⟨h1',h2'⟩:=get j' z' T' k' hj' hk'
  rw [h2,h2'] at he
  exact h.inj _ _ _ _ _ _ _ _ h1 hk h1' hk' he
 ·intro k hk
  have e1:dig V' p.bm k=dig V p.bm k:=by unfold dig;rw [hV _ (by omega)]
  rw [e1,h.map k hk]
  constructor
  ·rintro ⟨j,z,T,l,hj,hl,he⟩
   by_cases hji:j=i
   ·subst hji
    have:=hold z T hj l
    rw [hl] at this;cases this
   ·have hj':updF nd i y j=some (z,T):=by rw [a7 _ _ hji];exact hj
    exact ⟨j,z,T,l,hj',hl,by rw [(get j z T l hj' hl).2];exact he⟩
  ·rintro ⟨j,z,T,l,hj,hl,he⟩
   obtain ⟨h1,h2⟩:=get j z T l hj hl
   exact ⟨j,z,T,l,h1,hl,by rw [<- h2];exact he⟩
 ·intro j hj
  rw [hd j hj]
  by_cases hji:j=i
  ·subst hji;rw [if_pos rfl,ay]
  ·rw [if_neg hji,a7 _ _ hji];exact h.imap j hj
theorem zg (k:Nat):stdS 0 k=false:=by unfold stdS;simp
theorem pj {p:Pl} {V:Nat->aa} {F:FM} {i:Nat} {f:Nat×aa} (hi:F i=some f):ndOf p V F i=some (ldN p V i,stdS (dat f.2.length)):=by unfold ndOf;rw [hi];rfl
theorem Rep.ndX {p:Pl} {V:Nat->aa} {F:FM} (h:Rep p V F) {i:Nat} {f:Nat×aa} (hi:F i=some f):ndOf p V F i=some (ldN p V i,stdS (dat (ldN p V i).sz)):=by rw [(h.ok i f hi).sz];exact pj hi
theorem Rep.digI {p:Pl} {V:Nat->aa} {F:FM} (h:Rep p V F) {i:Nat} {f:Nat×aa} (hi:F i=some f):i=0 ∨ Go.Proofs.YtmihjfcbofejoaaGreatDoor.dig V p.im i=true:=by
 refine .inr ?_
 rw [h.inv.imap i (h.lt hi),pj hi];rfl
def fileAt (F:FM) (i:Int):Option (Nat×aa):=if 0<=i then F i.toNat else none
theorem vi (F:FM) (i:Nat):fileAt F (i:Int)=F i:=by unfold fileAt;rw [if_pos (by omega),Int.toNat_natCast]
theorem Rep.nope {p:Pl} {V:Nat->aa} {F:FM} (h:Rep p V F) {i:Int} (hi:fileAt F i=none):¬ (0<=i/\i < p.ino/\(i=0 ∨ Go.Proofs.YtmihjfcbofejoaaGreatDoor.dig V p.im i.toNat=true)):=by
 rintro ⟨h1,h2,h3⟩
 unfold fileAt at hi
 rw [if_pos h1] at hi
 have h4:=h.inv.imap i.toNat (by omega)
 have h5:ndOf p V F i.toNat=none:=by unfold ndOf;rw [hi];rfl
 rw [h5] at h4
 rcases h3 with h3 | h3
 ·subst h3
  have:=h.root
  rw [show (0:Int).toNat=0 from rfl] at hi
  rw [hi] at this;cases this
 ·rw [h4] at h3;cases h3
theorem Ia {p:Pl} {V V':Nat->aa} {F:FM} (h:Rep p V F) (ho:PlOk p) {i:Nat} (hk:Kp p V V' (ndOf p V F) i):∀ j g,j≠i->F j=some g->ldN p V' j=ldN p V j/\∀ k,stdS (dat g.2.length) k=true->V' (ptr V (ldN p V j) k)=V (ptr V (ldN p V j) k) :=
 fun j g hji hj=>⟨hk.ldN ho.tab (h.lt hj),fun k hk'=>hk.oth j _ _ k hji (pj hj) hk'⟩
theorem Rep.cntle {p:Pl} {V:Nat->aa} {F:FM} (h:Rep p V F):tot F p.ino<=p.dc:=by rw [<- h.cn];exact Ho _ _ _
def ext (old:aa) (n:Nat):aa:=old++List.replicate (n - old.length) 0
theorem je (old:aa) (n:Nat):(ext old n).length=max old.length n:=by unfold ext;rw [List.length_append,List.length_replicate];omega
theorem C6 (old:aa) (n q:Nat):(ext old n).getD q 0=old.getD q 0:=by
 unfold ext
 simp only [List.getD_eq_getElem?_getD,List.getElem?_append,List.getElem?_replicate]
 by_cases h:q < old.length
 ·rw [if_pos h]
 ·rw [if_neg h,List.getElem?_eq_none (by omega)]
  split<;>rfl
theorem Mk {old:aa} {n:Nat} (h:n<=old.length):ext old n=old:=by unfold ext;rw [show n - old.length=0 from by omega];simp
def wrB (old:aa) (at':Nat) (bs:aa):aa:=mo (ext old (at'+bs.length)) at' bs
theorem E2 (old:aa) (at':Nat) (bs:aa):(wrB old at' bs).length=max old.length (at'+bs.length):=by
 unfold wrB
 rw [jx (by rw [je];omega),je]
theorem Ml (old:aa) (at':Nat) (bs:aa) (q:Nat):(wrB old at' bs).getD q 0=if at'<=q/\q < at'+bs.length then bs.getD (q - at') 0 else old.getD q 0:=by
 unfold wrB
 rw [te (by rw [je];omega),C6]
theorem Mm (F:FM) (i:Nat) (y z:Option (Nat×aa)):updM (updM F i y) i z=updM F i z:=by
 funext j
 unfold updM
 split<;>rfl
theorem Rep.wrote {p:Pl} {V V':Nat->aa} {F:FM} (h:Rep p V F) (ho:PlOk p) {i at':Nat} {f:Nat×aa} {bs:aa} (hi:F i=some f) (hl:at'+bs.length<=f.2.length) (hy:LayR p V V' (ldN p V i) at' (at'+bs.length) bs) :
  Rep p V' (updM F i (some (f.1,wrB f.2 at' bs))):=by
 have hf:=h.ok i f hi
 have hd:=qk hf.big
 have hwl:(wrB f.2 at' bs).length=f.2.length:=by rw [E2];omega
 obtain ⟨h1,h2,h3,h4,h5⟩:=hy.stp h.inv ho (pj hi) (by omega) (fun k k1 k2=>⟨stdS_iff.2 (.inl (by unfold dat;omega)),by unfold dat at hd;omega⟩)
 refine h.laid ho hi hwl h1 h2 h3 fun q hq=>?_
 rw [hwl] at hq
 have hq1:q / 512 < dat f.2.length:=by unfold dat;omega
 rw [h5 q (by omega) (stdS_iff.2 (.inl hq1)),Ml]
 split
 ·rfl
 ·exact hf.byt q hq
theorem Rep.grown {p:Pl} {V V':Nat->aa} {F:FM} (h:Rep p V F) (ho:PlOk p) {i size:Nat} {f:Nat×aa} {x:Nd} {D D':List Nat} (hi:F i=some f) (hs1:f.2.length<=size) (hs2:size<=70656) (hg:GrowP p V V' (ndOf p V F) i (ldN p V i) x D D' size) :
  Rep p (svV p V' i x) (updM F i (some (f.1,ext f.2 size))):=by
 have hf:=h.ok i f hi
 have hel:(ext f.2 size).length=size:=by rw [je];omega
 refine h.save ho (f:=(f.1,ext f.2 size)) (h.lt hi) (.inl (by rw [hi];simp)) (by show Inv p V' (updF _ i (some (x,stdS (dat (ext f.2 size).length))));rw [hel];exact hg.inv) (Ia h ho hg.kp) ?_ ?_
 ·refine ⟨hg.kd.trans hf.kd,hf.k12,by show x.sz=(ext f.2 size).length;rw [hel];exact hg.sz,by show (ext f.2 size).length<=70656;omega,fun q hq=>?_⟩
  have hq':q < size:=by rw [<- hel];exact hq
  show fb V' x q=(ext f.2 size).getD q 0
  rw [hg.byt q hq',C6,hf.sz]
  split
  ·rename_i hlt;exact hf.byt q hlt
  ·rename_i hge;rw [List.getD_eq_getElem?_getD,List.getElem?_eq_none (by omega)];rfl
 ·have:=hg.cn
  rw [hf.sz] at this
  rw [hi]
  show cnt V' p.bm p.dc+has f.2.length=cnt V p.bm p.dc+has (ext f.2 size).length
  rw [hel];exact this
theorem Mn {p:Pl} {V:Nat->aa} (ho:PlOk p) {i:Nat} (hi:i < p.ino) (on:Bool):cnt (setD V p.im i on) p.bm p.dc=cnt V p.bm p.dc:=by
 have h1:=ho.apart
 have h2:=ho.i2
 exact xh fun k hk=>uq _ _ _ _ _ (by omega)
theorem pk {p:Pl} {V:Nat->aa} (ho:PlOk p) {i:Nat} (hi:i < p.ino) (on:Bool) {v:Nat} (hv:p.bm<=v):setD V p.im i on v=V v:=by
 have h1:=ho.apart
 have h2:=ho.i2
 exact em _ _ (by omega)
theorem Rep.made {p:Pl} {V:Nat->aa} {F:FM} (h:Rep p V F) (ho:PlOk p) {i k:Nat} (hi:i < p.ino) (hd:Go.Proofs.YtmihjfcbofejoaaGreatDoor.dig V p.im i=false) (hk:k=1 ∨ k=2):Rep p (svV p (setD V p.im i true) i ⟨k,0,List.replicate 11 0⟩) (updM F i (some (k,[]))):=by
 have hlo:=ho.lo
 have htd:=ho.tbda
 have hn:ndOf p V F i=none:=by
  have:=h.inv.imap i hi
  rw [hd] at this
  cases hh:ndOf p V F i with
  | none=>rfl
  | some y=>rw [hh] at this;cases this
 have hF:F i=none:=by
  unfold ndOf at hn
  cases hh:F i with
  | none=>rfl
  | some y=>rw [hh] at hn;cases hn
 have hi0:i≠0:=fun hh=>by
  subst hh
  have:=h.root
  rw [hF] at this;cases this
 have hfx:Fits ⟨k,0,List.replicate 11 0⟩:=Mj (by omega)
 have hinv:Inv p (setD V p.im i true) (updF (ndOf p V F) i (some (⟨k,0,List.replicate 11 0⟩,stdS (dat ([]:aa).length)))):=by
  refine h.inv.inode ho hi _ (fun x S hx=>by rw [hn] at hx;cases hx) (fun x S hx=>by cases hx;exact ⟨hfx,fun k=>zg k⟩) (Cy h.inv.len _ _ _) (fun v hv=>pk ho hi true hv) (fun j hj=>?_)
  rw [Cz h.inv.len];rfl
 refine h.save ho (f:=(k,[])) hi (.inr hi0) hinv (fun j g hji hj=>⟨?_,fun l hl=>?_⟩) ⟨rfl,hk,rfl,Nat.zero_le _,fun q hq=>by cases hq⟩ ?_
 ·unfold ldN
  rw [pk ho hi true (by omega)]
 ·have:=h.inv.rng j _ _ l (pj hj) hl
  exact pk ho hi true (by omega)
 ·rw [hF,Mn ho hi]
  show cnt V p.bm p.dc+0=cnt V p.bm p.dc+has 0
  rfl
theorem Rep.mono {p:Pl} {V V':Nat->aa} {F:FM} (h:Rep p V F) (ho:PlOk p) (h5:Len5 V') (hV:∀ v,p.im<=v->V' v=V v):Rep p V' F:=by
 have hlo:=ho.lo
 have hap:=ho.apart
 have htbl:=ho.tbl
 have htab:=ho.tab
 have hb:∀ k,k < p.dc->dig V' p.bm k=dig V p.bm k:=fun k _=>by unfold dig;rw [hV _ (by omega)]
 have hi:∀ k,k < p.ino->dig V' p.im k=dig V p.im k:=fun k _=>by unfold dig;rw [hV _ (by omega)]
 have hl:∀ j,ldN p V' j=ldN p V j:=fun j=>by unfold ldN;rw [hV _ (by omega)]
 have hpt:∀ j f,F j=some f->∀ k,stdS (dat f.2.length) k=true->ptr V' (ldN p V j) k=ptr V (ldN p V j) k:=fun j f hj k hk =>
  d2 (Bj (qk (h.ok j f hj).big)) (fun h2=>hV _ (by have:=h.inv.rng j _ _ 200 (pj hj) h2;rw [dq] at this;omega)) hk
 refine ⟨h.inv.same h5 hb hi fun j=>?_,fun i f hf=>?_,?_,h.root⟩
 ·cases hj:F j with
  | none=>exact .inl ⟨by unfold ndOf;rw [hj];rfl,by unfold ndOf;rw [hj];rfl⟩
  | some f =>
   refine .inr ⟨ldN p V j,ldN p V j,stdS (dat f.2.length),pj hj,by rw [pj hj,hl],h.inv.fits j _ _ (pj hj),hpt j f hj⟩
 ·have h1:=h.ok i f hf
  rw [hl]
  refine ⟨h1.kd,h1.k12,h1.sz,h1.big,fun q hq=>?_⟩
  rw [<- h1.byt q hq]
  have hS:stdS (dat f.2.length) (q / 512)=true:=stdS_iff.2 (.inl (by unfold dat;omega))
  exact n3 (hpt i f hf _ hS) (hV _ (by have:=h.inv.rng i _ _ _ (pj hf) hS;omega))
 ·rw [xh hb];exact h.cn
theorem Qr {V:Nat->aa} (h:Len5 V):Len5 (cm0 V):=fun k=>by
 unfold cm0
 split
 ·exact bg
 ·exact h k
theorem Rep.cm {p:Pl} {V:Nat->aa} {F:FM} (h:Rep p V F) (ho:PlOk p):Rep p (cm0 V) F:=h.mono ho (Qr h.inv.len) (fun v hv=>rc V (by have:=ho.aI.lo;omega))
theorem Tl {s c a:Nat} {p:Pl} {V0 V:Nat->aa} {D:List Nat} {i:Nat} (ho:PlOk p) (hi:i < p.ino) (hd:i=0 ∨ dig V p.im i=true):Spec Tryz.prog 184 #[.pointer (some ⟨s,0,none⟩),nI i] [pt s (stO c a p),pt a (alO c p),TR c p.n V0 V D true] fun F v M=>v=.tuple #[ndV (ldN p V i),.int .i64 0]/\M=[pt s (stO c a p),pt a (alO c p),TR c p.n V0 V D true]++F:=by
 refine Spec.intro Tryz.func184 rfl rfl fun B F=>?_
 simp only [Tryz.ntmps184,List.cons_append,List.nil_append,env0,Nat.reduceAdd]
 refine .sr ?_
 refine .allocL zNd rfl fun b4=>?_
 refine .assign (.z (.seq (.sr (.move ?_))))
 refine .call (hc:=Tryz.call140) (sp:=td (n:=p.n) (V0:=V0) (V:=V) (D:=D) (op:=true)) (h:=?_)
 rintro _ _ ⟨rfl,rfl⟩
 simp only [List.cons_append,List.nil_append]
 refine .not (.z ?_)
 refine .condF rfl rfl ?_
 refine .skip (.next (.sr (.move (.move ?_))))
 refine .call (hc:=Tryz.call233) (sp:=zd (i:=i) (V0:=V0) (V:=V) (D:=D) (op:=true) ho hi hd) (h:=?_)
 rintro _ _ ⟨rfl,rfl⟩
 simp only [List.cons_append,List.nil_append]
 refine .extract (.extract ?_)
 refine .stLA (xs:=ndL nd0) (us:=ndL (ldN p V i)) ?_ dv (au (rh _ _).bl) rfl (dm _)
 refine .assign (.z (.ret (?_)))
 exact .ret2 (h1:=RV.aggL rfl dv (by repeat (first | exact .here | apply Rem.there | apply Repl.there | apply Mem.there)) (au (rh _ _).bl)) (h2:=.tmp rfl) ⟨_,⟨rfl,rfl⟩,Am.auto⟩
theorem Qs {s c a:Nat} {p:Pl} {V0 V:Nat->aa} {D:List Nat} {F0:FM} {i at' m cc:Nat} {f:Nat×aa} {R:HP} {A:Option Addr} {bs:aa} (h:Rep p V F0) (ho:PlOk p) (hi:F0 i=some f) (hdk:Dk p D) (hrm:Rm p D (has (max f.2.length (at'+m)) - has f.2.length+(m+511) / 512+10)) (hR:bs=[] ∨ Reads R A (bvs bs)) (hm:bs.length=m) (hcc:m<=cc) (hcb:cc<=maxLen) (hat:at'<=f.2.length) (hbg:at'+m<=70656) :
  Spec Tryz.prog 169 #[.pointer (some ⟨s,0,none⟩),nI i,nI at',.slice A m cc] [R,pt s (stO c a p),pt a (alO c p),TR c p.n V0 V D true] fun F v M =>
   (p.dc+has f.2.length < tot F0 p.ino+has (max f.2.length (at'+m))/\v=.int .i64 3/\M=[R,pt s (stO c a p),pt a (alO c p),TR c p.n V0 V D true]++F) ∨
   (tot F0 p.ino+has (max f.2.length (at'+m))<=p.dc+has f.2.length/\∃ V' D',Rep p V' (updM F0 i (some (f.1,wrB f.2 at' bs)))/\(Dk p D'/\wt p D'<=wt p D+(has (max f.2.length (at'+m)) - has f.2.length)+(m+511) / 512+5)/\v=okV/\M=[R,pt s (stO c a p),pt a (alO c p),TR c p.n V0 V' D' true]++F):=by
 refine Spec.intro Tryz.func169 rfl rfl fun B F=>?_
 simp only [Tryz.ntmps169,List.cons_append,List.nil_append,env0,Nat.reduceAdd]
 have hf:=h.ok i f hi
 have hsz:=hf.sz
 have hbig:=hf.big
 have hlt:=h.lt hi
 have hi2:=ho.i2
 have hlo:=ho.lo
 have htab:=ho.tab
 have hnd:=pj (p:=p) (V:=V) hi
 have hfx:=h.inv.fits i _ _ hnd
 have hbl:=hfx.bl
 have hnl:=au hbl
 have hcl:=h.cntle
 have hszg:(ndL (ldN p V i))[1]?=some (nI f.2.length):=by rw [<- hsz];rfl
 by_cases hgr:f.2.length < at'+m
 ·have hmx:max f.2.length (at'+m)=at'+m:=by omega
  rw [hmx] at hrm ⊢
  have hndx:=h.ndX hi
  refine .sr (.assign (.x (.move (.move ?_))))
  refine .call (hc:=Tryz.call184) (sp:=Tl (i:=i) (V0:=V0) (V:=V) (D:=D) ho (h.lt hi) (h.digI hi)) (h:=?_)
  rintro _ _ ⟨rfl,rfl⟩
  simp only [List.cons_append,List.nil_append]
  refine .move ?_
  refine .extract (.extract ?_)
  refine .allocL zNd rfl fun b9=>?_
  refine .stLA (xs:=ndL nd0) (us:=ndL (ldN p V i)) ?_ dv hnl rfl (dm _)
  refine .assign (.z (.seq (.block (.sr (.move ?_)))))
  refine .nei ?_
  refine .assign (.z ?_)
  refine .condF rfl rfl ?_
  refine .sr (.move ?_)
  refine .lss ?_
  refine .move ?_
  refine .cast (d:=26) (u:=.bool false) rfl (cB9 (by first|simp;done|simp;omega|unfold nI;simp;omega|omega)) ?_
  refine .gT (.move (.gT ?_))
  refine .fa ?_ d5
  refine .gT ?_
  refine .ldL (xs:=ndL (ldN p V i)) (i:=1) ?_ sc3 hszg
  refine .gT ?_
  refine .gtr ?_
  refine .pickF (.assign (.z ?_))
  refine .condF rfl (cB9 (by first|simp;done|simp;omega|unfold nI;simp;omega|omega)) ?_
  refine .sr (.move ?_)
  refine .lenS ?_ sl79
  refine .move ?_
  refine .sub ?_
  refine .gtr ?_
  refine .assign (.z ?_)
  refine .condF rfl (cB9 (by first|simp;done|simp;omega|unfold nI;simp;omega|omega)) ?_
  refine .skip (.blockNormal (.next (.seq (.sr (.move (.move ?_))))))
  refine .lenS ?_ sl79
  refine .add ?_
  refine .fa ?_ d5
  refine .ldL (xs:=ndL (ldN p V i)) (i:=1) ?_ sc3 hszg
  refine .gtr (.z ?_)
  refine .condT rfl (cB9 (by first|simp;done|simp;omega|unfold nI;simp;omega|omega)) ?_
  refine .seq (.sr (.move (.move (.move ?_))))
  refine .lenS ?_ sl79
  refine .add ?_
  refine .cast (d:=49) (u:=nI (at'+m)) rfl (cI9 (by omega)) ?_
  refine .call (hc:=Tryz.call228) (sp:=Tj (i:=i) (b:=b9) (size:=at'+m) (x:=ldN p V i) (V0:=V0) (V:=V) (D:=D) h.inv ho hndx hdk (by rw [hsz];omega) (by omega) (hrm.mono (by rw [hsz];omega))) (h:=?_)
  rintro _ _ (⟨hfull,rfl,rfl⟩ | ⟨hle,x1,V1,D1,hG,rfl,rfl⟩)<;>simp only [List.cons_append,List.nil_append]
  ·rw [h.cn,hsz] at hfull
   refine .assign (.x (.move ?_))
   refine .nei (.z ?_)
   refine .condT rfl rfl ?_
   refine .sr (.move (.assign (.z ?_)))
   refine .ret (.thenRet (.thenRet (?_)))
   exact .ret1 (h1:=.tmp (t:=8) rfl) ⟨_,.inl ⟨hfull,rfl,rfl⟩,Am.auto⟩
  ·rw [h.cn,hsz] at hle
   have hfx1:=hG.inv.fits i x1 _ (ay ..)
   have hbl1:=hfx1.bl
   have hwg:=hG.wt
   rw [hsz] at hwg
   have hhm:has f.2.length<=has (at'+m):=by rw [ln,ln];exact Bl (C5 (by omega))
   have hrep:=h.grown ho hi (by omega) (by omega) hG
   have hsd:=C4 (p:=p) hG.dk (v:=p.tb+i / 8) (by omega) (by omega)
   have hld2:ldN p (svV p V1 i x1) i=x1:=xe hG.inv.len hfx1
   have hel:(ext f.2 (at'+m)).length=at'+m:=by rw [je];omega
   have hnd2:=pj (p:=p) (V:=svV p V1 i x1) (eo F0 i (some (f.1,ext f.2 (at'+m))))
   rw [hld2] at hnd2
   simp only [hel] at hnd2
   refine .assign (.x (.move ?_))
   refine .nei (.z ?_)
   refine .condF rfl rfl ?_
   refine .skip (.next (.sr (.move (.move ?_))))
   refine .ldW (xs:=ndL x1) ?_ dv (au hbl1)
   refine .call (hc:=Tryz.call141) (sp:=C2 (i:=i) (x:=x1) (V0:=V0) (V:=V1) (D:=D1) ho hlt hfx1 (hG.dk.room (c:=0) (hrm.mono (by omega)))) (h:=?_)
   rintro _ _ ⟨rfl,rfl⟩
   simp only [List.cons_append,List.nil_append]
   refine .assign (.x (.move ?_))
   refine .nei (.z ?_)
   refine .condF rfl rfl ?_
   refine .skip (.next (.sr (.move ?_)))
   refine .ldW (xs:=ndL x1) ?_ dv (au hbl1)
   refine .move (.move ?_)
   refine .call (hc:=Tryz.call229) (sp:=Qq (x:=x1) (at':=at') (bs:=bs) (R:=R) (V0:=V0) (V:=svV p V1 i x1) (D:=insD D1 (p.tb+i / 8)) hrep.inv ho hnd2 hsd.1 (hrm.mono (by rw [hm];omega)) hR hm hcc hcb (fun k k1 k2=>⟨stdS_iff.2 (.inl (by unfold dat;omega)),by omega⟩) (by omega) (by omega)) (h:=?_)
   rintro _ _ ⟨V2,D2,hlay,⟨hdk2,hw2⟩,rfl,rfl⟩
   simp only [List.cons_append,List.nil_append]
   refine .assign (.z (.ret (?_)))
   rw [<- hm] at hlay hel
   have hfin:=hrep.wrote ho (at':=at') (bs:=bs) (eo ..) (by show at'+bs.length<=(ext f.2 (at'+m)).length;rw [<- hm];omega) (by rw [hld2];exact hlay)
   rw [Mm] at hfin
   have hwe:wrB (ext f.2 (at'+m)) at' bs=wrB f.2 at' bs:=by
    unfold wrB
    rw [<- hm,Mk (old:=ext f.2 (at'+bs.length)) (by omega)]
   simp only [hwe] at hfin
   exact .ret1 (h1:=.tmp (t:=8) rfl) ⟨_,.inr ⟨hle,_,_,hfin,⟨hdk2,by omega⟩,rfl,rfl⟩,Am.auto⟩
 ·have hmx:max f.2.length (at'+m)=f.2.length:=by omega
  rw [hmx] at hrm ⊢
  refine .sr (.assign (.x (.move (.move ?_))))
  refine .call (hc:=Tryz.call184) (sp:=Tl (i:=i) (V0:=V0) (V:=V) (D:=D) ho (h.lt hi) (h.digI hi)) (h:=?_)
  rintro _ _ ⟨rfl,rfl⟩
  simp only [List.cons_append,List.nil_append]
  refine .move ?_
  refine .extract (.extract ?_)
  refine .allocL zNd rfl fun b9=>?_
  refine .stLA (xs:=ndL nd0) (us:=ndL (ldN p V i)) ?_ dv hnl rfl (dm _)
  refine .assign (.z (.seq (.block (.sr (.move ?_)))))
  refine .nei ?_
  refine .assign (.z ?_)
  refine .condF rfl rfl ?_
  refine .sr (.move ?_)
  refine .lss ?_
  refine .move ?_
  refine .cast (d:=26) (u:=.bool false) rfl (cB9 (by first|simp;done|simp;omega|unfold nI;simp;omega|omega)) ?_
  refine .gT (.move (.gT ?_))
  refine .fa ?_ d5
  refine .gT ?_
  refine .ldL (xs:=ndL (ldN p V i)) (i:=1) ?_ sc3 hszg
  refine .gT ?_
  refine .gtr ?_
  refine .pickF (.assign (.z ?_))
  refine .condF rfl (cB9 (by first|simp;done|simp;omega|unfold nI;simp;omega|omega)) ?_
  refine .sr (.move ?_)
  refine .lenS ?_ sl79
  refine .move ?_
  refine .sub ?_
  refine .gtr ?_
  refine .assign (.z ?_)
  refine .condF rfl (cB9 (by first|simp;done|simp;omega|unfold nI;simp;omega|omega)) ?_
  refine .skip (.blockNormal (.next (.seq (.sr (.move (.move ?_))))))
  refine .lenS ?_ sl79
  refine .add ?_
  refine .fa ?_ d5
  refine .ldL (xs:=ndL (ldN p V i)) (i:=1) ?_ sc3 hszg
  refine .gtr (.z ?_)
  refine .condF rfl (cB9 (by first|simp;done|simp;omega|unfold nI;simp;omega|omega)) ?_
  refine .skip (.next (.sr (.move ?_)))
  refine .ldW (xs:=ndL (ldN p V i)) ?_ dv hnl
  refine .move (.move ?_)
  refine .call (hc:=Tryz.call229) (sp:=Qq (x:=ldN p V i) (at':=at') (bs:=bs) (R:=R) (V0:=V0) (V:=V) (D:=D) h.inv ho hnd hdk (hrm.mono (by rw [hm];omega)) hR hm hcc hcb (fun k k1 k2=>⟨stdS_iff.2 (.inl (by unfold dat;omega)),by omega⟩) (by omega) (by omega)) (h:=?_)
  rintro _ _ ⟨V2,D2,hlay,⟨hdk2,hw2⟩,rfl,rfl⟩
  simp only [List.cons_append,List.nil_append]
  refine .assign (.z (.ret (?_)))
  rw [<- hm] at hlay
  have hfin:=h.wrote ho hi (by omega) hlay
  exact .ret1 (h1:=.tmp (t:=8) rfl) ⟨_,.inr ⟨by omega,_,_,hfin,⟨hdk2,by omega⟩,rfl,rfl⟩,Am.auto⟩
end Go.Proofs.YtmihjfcbofejoaaGreatDoor
end
