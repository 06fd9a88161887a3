/- The law PartOffsets holds for every input;no condition. -/
import Derived.Test.YtmihjfcbofejoaaGreatDoorRows
import Derived.Test.YtmihjfcbofejoaaGreatDoorQd7
import Derived.WalkKit
import Derived.ProofKit
import Derived.OpenShut
import Derived.Carry
import Derived.LaidMore
import Derived.LaidHandle
import Derived.MakeChecks
import Derived.Stop.Joined
import Derived.SevenTiedAt
import Derived.Test.YtmihjfcbofejoaaGreatDoorCards
import Derived.Test.YtmihjfcbofejoaaGreatDoorTie
import Derived.ChangeSlices
import Derived.Deep.Slices
import Derived.Deep.Fields
namespace Go.Proofs.YtmihjfcbofejoaaGreatDoor.partOffsets
open Go.ChangeShapes Go.WideShapes Go.ChangeAt Go.RowKit
set_option linter.unusedVariables false
set_option linter.unusedSimpArgs false

theorem own :ownKnob Tryz.prog.godebug=none:=by kernel_rfl
theorem in64 {n:Int} (h:(Lit.int .i64 n).wf=true):-9223372036854775808<=n/\n<=9223372036854775807:=by
 simp [Lit.wf,IntKind.min,IntKind.max,IntKind.bits,IntKind.signed] at h;omega
theorem S6 :laidOutB Tryz.prog=true:=by kernel_rfl
theorem P4 :Tryz.prog.cellsOf 3=1:=by kernel_rfl
theorem walk (w:World) (A:Option Addr) (m c0:Nat) (xs:List Int) (hR:xs=[] ∨ Reads (whole w) A (ints xs)) (hm:xs.length=m) (hxs:∀ x∈xs,-9223372036854775808<=x/\x<=9223372036854775807) (hbig:m<=9223372036854775807) (a1:Int) (w1:(Lit.int .i64 a1).wf=true) :
  Calls Tryz.prog 4 #[.slice A m c0,.int .i64 a1] w fun e w'=>e=.returned (.bool true)/\Below w.heap.size w w':=by
 have key:Calls Tryz.prog 4 #[.slice A m c0,.int .i64 a1] w fun e w'=>e=.returned (.bool true)/\Below w.heap.size w w':=by
  refine (lj (c0:=c0) hR hm hxs hbig (in64 w1) (Base.of w) [] w (Sat.wholeOf w)).mono ?_
  rintro e w' ⟨v,M,rfl,⟨rfl,rfl⟩,hs⟩
  exact ⟨rfl,hs.belowOld .here⟩
 exact key

/-- A world whose tables read as listed. -/
noncomputable def laidWorld (os:Os):World :=
 let w0:=World.holding Tryz.prog os ⟨#[],#[],[]⟩
 let put (h:Array Obj) (g:Nat) (cs:Array Value):Array Obj:=h.modify g fun
  | .cells _ t frozen=>.cells cs t frozen
  | o=>o
 let h1:=put w0.heap 1 (Go.Pinned.utf8FirstZ.map fun (z:Nat)=>Value.int .u8 (z:Int)).toArray
 let h2:=put h1 2 ([128,191,160,191,128,159,144,191,128,143,0,0,0,0,0,0,0,0,0,0,0,0,0,0,0,0,0,0,0,0,0,0].map fun (z:Nat)=>Value.int .u8 (z:Int)).toArray
 { w0 with heap:=h2 }
theorem x4 (os:Os) (args:Array Value):laidMetH Tryz.prog Rows.partOffsetsRow.laid ((laidWorld os).forCall (fun _ _=>0) ⟨#[],args,[]⟩).memory:=by
 rw [MakeChecks.laidMetH_plain _ _ _ (by kernel_rfl)]
 exact laidMet_of_run' 10 (by kernel_rfl) (by kernel_rfl)

/-! ### THE ROW's STEP: WRITTEN OUT: LEAVE IT -/
set_option maxRecDepth 100000 in
theorem lifted (os:Os) (started:os.Started) (H:Type) (enc:TypeId×Value->H) :
  ReturnsInHanded {} Tryz.checked os 4 .any (fun w args=>(Rows.partOffsetsSpec.pre enc Tryz.prog Tryz.f4 [] false w args/\laidMetH Tryz.prog Rows.partOffsetsRow.laid w)/\sizedMet enc Tryz.prog Tryz.f4 (OpenSpec.ofChange Rows.partOffsetsSpec) false w args) (Rows.partOffsetsSpec.post enc Tryz.prog Tryz.f4 false true false false):=by
 refine returnsInHanded_of_change_and (C:=Tryz.checked) (X:=fun w _=>laidMetH Tryz.prog Rows.partOffsetsRow.laid w) (fun _ _ _ hh h=>h.of_heap hh) own started (by kernel_rfl) Tryz.func4
  (ChangeSpec.witness_at (enc:=enc) (C:=Tryz.checked) (os:=os) (X:=fun w _=>laidMetH Tryz.prog Rows.partOffsetsRow.laid w) false (laidWorld os) #[.slice none 0 0,.int .i64 0] 8 rfl (by kernel_rfl) (by kernel_rfl) (by kernel_rfl) (by kernel_rfl) (by kernel_rfl) (x4 os _)) ?_
 intro W base args ds gs before hval0 hW hcnd _ _ _
 have hval:∀ (j:Nat) t v,Tryz.f4.params[j]?=some t->args[j]?=some v->Value.okWide Tryz.prog W .any base t v:=hval0
 have hW':=hW
 obtain ⟨p,q,hA0,hV,rfl,hfz,hnd⟩:=hW
 have hA:DataW.TrodAll enc Tryz.prog W 0 (fun _=>true) true Tryz.f4.params.toList args.toList ds p:=hA0
 rw [Tryz.params4] at hA hval
 obtain ⟨v0,vs0,d0,ds0,p0,q0,hargs,rfl,rfl,h0,r0⟩:=trodAll_cons hA
 obtain ⟨v1,vs1,d1,ds1,p1,q1,rfl,rfl,rfl,h1,r1⟩:=trodAll_cons r0
 obtain ⟨rfl,rfl,rfl⟩:=trodAll_nil r1
 obtain rfl:args=#[v0,v1]:=by cases args;simp_all
 obtain ⟨rfl,rfl⟩:=trodVars_none hV
 obtain ⟨al,len,cap,rfl⟩:=okWide_slice Tryz.underlying26 (hval 0 26 v0 rfl rfl)
 have h0k:=h0
 obtain ⟨fuel0,hf⟩:=h0
 obtain ⟨a1,rfl,rfl,rfl,w1⟩:=open_int Tryz.underlying3 (hval 1 3 v1 rfl rfl) h1
 clear hA0 hval0
 simp only [List.append_nil] at hW'
 have hlt:∀ x∈p0,x.block < W.heap.size:=fun x hx=>by simpa using hW'.lt x (by simp [hx])
 have hback:∀ (W':World),Below W.heap.size W W'->DataW.Trod enc Tryz.prog W' 0 (fun b=>decide (b < W.heap.size)) true 26 (.slice al len cap) d0 p0 :=
  fun W' hn=>Below.trod S6 (by kernel_rfl) (of_decide_eq_true (by kernel_rfl)) h0k hn hlt
 have hwalk:Calls Tryz.prog 4 #[.slice al len cap,.int .i64 a1] W fun e w'=>e=.returned (.bool true)/\Below W.heap.size W w':=by
  rcases open_ints Tryz.underlying26 Tryz.underlying3 P4 hf with ⟨hcs,hx⟩ | ⟨a,len',cap',zs,hcs,_,hl,hm,hz,hx,hcell,hwz⟩
  ·simp [Value.cells] at hcs
   obtain ⟨rfl,rfl,rfl⟩:=hcs
   exact walk W none 0 0 [] (.inl rfl) rfl (fun x hx=>by cases hx) (by decide) a1 w1
  ·simp [Value.cells] at hcs
   obtain ⟨rfl,rfl,rfl⟩:=hcs
   simp only [if_true] at hz
   have hxr:∀ x∈zs.take len,-9223372036854775808<=x/\x<=9223372036854775807:=fun x hx=>in64 (hwz x (List.mem_of_mem_take hx))
   have hlen:(zs.take len).length=len:=by rw [List.length_take];omega
   have hbig:len<=9223372036854775807:=Nat.le_trans (show len<=maxLen by omega) (show maxLen<=9223372036854775807 by decide)
   by_cases hl0:len=0
   ·subst hl0
    exact walk W (some a) 0 cap [] (.inl rfl) rfl (fun x hx=>by cases hx) (by decide) a1 w1
   ·obtain ⟨b,off,spot⟩:=a
    have hspot:spot=none:=by simpa [Addr.add] using World.cell?_spot (hcell 0 (by omega))
    subst hspot
    refine walk W _ len cap (zs.take len) (.inr ?_) hlen hxr hbig a1 w1
    have hc0:=hcell 0 (by omega)
    rw [add_plain] at hc0
    obtain ⟨cs,e,fr,hblk⟩:∃ cs e fr,W.heap[b]?=some (.cells cs e fr):=by
     unfold World.cell? at hc0
     simp only at hc0
     cases hb:W.heap[b]? with
     | none=>rw [hb] at hc0;simp at hc0
     | some o =>
      rw [hb] at hc0
      cases o<;>first | exact ⟨_,_,_,rfl⟩ | simp at hc0
    refine Reads.whole hblk fun i hi=>?_
    have hi':i < len:=by rw [ints,List.length_map,hlen] at hi;exact hi
    have h1:=hcell i (by omega)
    rw [add_plain,kr hblk] at h1
    rw [h1,wq (by omega)]
    simp [List.getD,show i < zs.length by omega]
 refine hwalk.mono fun e W' ⟨he,hg⟩=>?_
 subst he
 refine ⟨_,rfl,_,_,_,[],p0,[],by simpa using hW',?_,?_,?_,hg.frame _,fun h=>by cases h⟩
 ·exact trodAll_cons_mk (shut_bool Tryz.underlying4 _) trodAll_mk0
 ·have h:=trodAll_cons_mk (hback W' hg) (trodAll_cons_mk (shut_int Tryz.underlying3 w1) (trodAll_mk0))
  simp only [List.append_nil,List.nil_append] at h
  exact h
 ·exact rfl

theorem Jd {P:Program} {f:FuncId} {fn:Func} {s:ChangeSpec} {c:OpenClaim} (h0:(c.wf (OpenSpec.ofChange s))=true) (h1:(laidOutB P)=true) (h2:(mapsRowed P)=true) (h3:(fn.params.all (P.readableRec ·))=true) (h4:(namedTie P c.named s.vars)=true) (h5:((c.stops==[]))=true) (h6:((P.stops==[]))=true) (h7:((c.knobs==[]))=true) (h8:((P.stopKnobs==[]))=true) (h9:((c.inPlace==P.inPlace f))=true) (h10:((c.unfollowed==P.unfollowed f))=true) (h11:((c.recurses==P.recurses f))=true) (h12:((c.named==P.varsNamed f))=true) (h13:((c.maps==(fn.params.toList++s.plain.varTypes P).any (P.mapsRec ·)))=true) (h14:((c.ifaces==(fn.params.toList++s.plain.varTypes P).any (P.ifacesRec ·)))=true) (h15:((c.mapsOut==P.mapsAmong fn.resultTypes.toList))=true) (h16:((c.loops==(fn.params.toList++s.plain.varTypes P).any (P.loopsFrom ·)))=true) (h17:((c.wideKeys==(fn.params.toList++s.plain.varTypes P++fn.resultTypes.toList).any (P.wideKeysFrom ·)))=true) (h18:(s.vars.all (P.varReadable ·))=true) (h19:(fn.resultTypes.all (fun t=>P.readableRec t && decide (t < P.types.size)))=true) (h20:((c.ifacesOut==fn.resultTypes.toList.any (P.ifacesRec ·)))=true) (h21:((c.loopsOut==fn.resultTypes.toList.any (P.loopsFrom ·)))=true) (h22:((c.plainKeys==P.plainKeys))=true) (h23:(c.shortTexts.isNone)=true) (h24:(P.stopsHeard)=true) (h25:(P.mayEnter)=true) (h26:((c.lifted==P.liftsFinal))=true) (h27:((P.make==some c.make))=true) (h28:((c.kinds==(if c.domain.isEmpty then [] else fn.params.toList.map fun t=>match P.underlying t with | some (.int k)=>some k | _=>none)))=true) (h29:((c.pinned==c.pinnedBy))=true) (h30:((c.veiled==(fn.params.toList++s.plain.varTypes P++fn.resultTypes.toList).any (P.veiledRec ·)))=true) (h31:(c.veiledFits P fn.params.toList (fn.params.toList++s.plain.varTypes P++fn.resultTypes.toList))=true):joinedFacts P f fn s c=true:=by
 simp only [joinedFacts,Bool.and_eq_true]
 exact ⟨⟨⟨⟨⟨⟨⟨⟨⟨⟨⟨⟨⟨⟨⟨⟨⟨⟨⟨⟨⟨⟨⟨⟨⟨⟨⟨⟨⟨⟨⟨h0,h1⟩,h2⟩,h3⟩,h4⟩,h5⟩,h6⟩,h7⟩,h8⟩,h9⟩,h10⟩,h11⟩,h12⟩,h13⟩,h14⟩,h15⟩,h16⟩,h17⟩,h18⟩,h19⟩,h20⟩,h21⟩,h22⟩,h23⟩,h24⟩,h25⟩,h26⟩,h27⟩,h28⟩,h29⟩,h30⟩,h31⟩
theorem j0 :(Rows.partOffsetsRow.wf (OpenSpec.ofChange Rows.partOffsetsSpec))=true:=by kernel_rfl
theorem j1 :(laidOutB Tryz.prog)=true:=by kernel_rfl
theorem j2 :(mapsRowed Tryz.prog)=true:=by kernel_rfl
theorem j3 :(Tryz.f4.params.all (Tryz.prog.readableRec ·))=true:=by kernel_rfl
theorem j4 :(namedTie Tryz.prog Rows.partOffsetsRow.named Rows.partOffsetsSpec.vars)=true:=by kernel_rfl
theorem j5 :((Rows.partOffsetsRow.stops==[]))=true:=by kernel_rfl
theorem j6 :((Tryz.prog.stops==[]))=true:=by kernel_rfl
theorem j7 :((Rows.partOffsetsRow.knobs==[]))=true:=by kernel_rfl
theorem j8 :((Tryz.prog.stopKnobs==[]))=true:=by kernel_rfl
theorem j9 :((Rows.partOffsetsRow.inPlace==Tryz.prog.inPlace 4))=true:=by kernel_rfl
theorem j10 :((Rows.partOffsetsRow.unfollowed==Tryz.prog.unfollowed 4))=true:=by kernel_rfl
theorem j11 :((Rows.partOffsetsRow.recurses==Tryz.prog.recurses 4))=true:=by kernel_rfl
theorem j12 :((Rows.partOffsetsRow.named==Tryz.prog.varsNamed 4))=true:=by kernel_rfl
theorem j13 :((Rows.partOffsetsRow.maps==(Tryz.f4.params.toList++Rows.partOffsetsSpec.plain.varTypes Tryz.prog).any (Tryz.prog.mapsRec ·)))=true:=by kernel_rfl
theorem j14 :((Rows.partOffsetsRow.ifaces==(Tryz.f4.params.toList++Rows.partOffsetsSpec.plain.varTypes Tryz.prog).any (Tryz.prog.ifacesRec ·)))=true:=by kernel_rfl
theorem j15 :((Rows.partOffsetsRow.mapsOut==Tryz.prog.mapsAmong Tryz.f4.resultTypes.toList))=true:=by kernel_rfl
theorem j16 :((Rows.partOffsetsRow.loops==(Tryz.f4.params.toList++Rows.partOffsetsSpec.plain.varTypes Tryz.prog).any (Tryz.prog.loopsFrom ·)))=true:=by kernel_rfl
theorem j17 :((Rows.partOffsetsRow.wideKeys==(Tryz.f4.params.toList++Rows.partOffsetsSpec.plain.varTypes Tryz.prog++Tryz.f4.resultTypes.toList).any (Tryz.prog.wideKeysFrom ·)))=true:=by kernel_rfl
theorem j18 :(Rows.partOffsetsSpec.vars.all (Tryz.prog.varReadable ·))=true:=by kernel_rfl
theorem j19 :(Tryz.f4.resultTypes.all (fun t=>Tryz.prog.readableRec t && decide (t < Tryz.prog.types.size)))=true:=by kernel_rfl
theorem j20 :((Rows.partOffsetsRow.ifacesOut==Tryz.f4.resultTypes.toList.any (Tryz.prog.ifacesRec ·)))=true:=by kernel_rfl
theorem j21 :((Rows.partOffsetsRow.loopsOut==Tryz.f4.resultTypes.toList.any (Tryz.prog.loopsFrom ·)))=true:=by kernel_rfl
theorem j22 :((Rows.partOffsetsRow.plainKeys==Tryz.prog.plainKeys))=true:=by kernel_rfl
theorem j23 :(Rows.partOffsetsRow.shortTexts.isNone)=true:=by kernel_rfl
theorem j24 :(Tryz.prog.stopsHeard)=true:=by kernel_rfl
theorem j25 :(Tryz.prog.mayEnter)=true:=by kernel_rfl
theorem j26 :((Rows.partOffsetsRow.lifted==Tryz.prog.liftsFinal))=true:=by kernel_rfl
theorem j27 :((Tryz.prog.make==some Rows.partOffsetsRow.make))=true:=by kernel_rfl
theorem j28 :((Rows.partOffsetsRow.kinds==(if Rows.partOffsetsRow.domain.isEmpty then [] else Tryz.f4.params.toList.map fun t=>match Tryz.prog.underlying t with | some (.int k)=>some k | _=>none)))=true:=by kernel_rfl
theorem j29 :((Rows.partOffsetsRow.pinned==Rows.partOffsetsRow.pinnedBy))=true:=by kernel_rfl
theorem j30 :((Rows.partOffsetsRow.veiled==(Tryz.f4.params.toList++Rows.partOffsetsSpec.plain.varTypes Tryz.prog++Tryz.f4.resultTypes.toList).any (Tryz.prog.veiledRec ·)))=true:=by kernel_rfl
theorem j31 :(Rows.partOffsetsRow.veiledFits Tryz.prog Tryz.f4.params.toList (Tryz.f4.params.toList++Rows.partOffsetsSpec.plain.varTypes Tryz.prog++Tryz.f4.resultTypes.toList))=true:=by kernel_rfl
theorem S7 :joinedFacts Tryz.prog 4 Tryz.f4 Rows.partOffsetsSpec Rows.partOffsetsRow=true:=Jd j0 j1 j2 j3 j4 j5 j6 j7 j8 j9 j10 j11 j12 j13 j14 j15 j16 j17 j18 j19 j20 j21 j22 j23 j24 j25 j26 j27 j28 j29 j30 j31
theorem k1 :Rows.partOffsetsRow.wfByText (OpenSpec.ofChange Rows.partOffsetsSpec)=true:=by kernel_rfl
theorem k2 : Tryz.prog.mainIs = some ((true, "4ecc0b3588063a331043dc168a4ca2a715ca78ff88f9ed876aa77f3dba7e7324").1, (true, "4ecc0b3588063a331043dc168a4ca2a715ca78ff88f9ed876aa77f3dba7e7324").2.toList) := by kernel_rfl
theorem k4 :true=Tryz.prog.looks []:=by kernel_rfl
theorem k6 :false=Rows.partOffsetsRow.goesBy Tryz.prog:=by kernel_rfl
theorem over :Rows.partOffsetsRow.holds Tryz.pinned (OpenSpec.ofChange Rows.partOffsetsSpec) :=
 OpenClaim.holds_of_wide 4 Tryz.f4 rfl rfl rfl rfl rfl rfl rfl ⟨rfl,rfl,rfl,rfl,rfl⟩ rfl rfl rfl rfl rfl (by kernel_rfl) Tryz.func4 S7
  (of_decide_eq_true (by kernel_rfl)) (by unfold Func.isWrapper;first | (rw [if_pos (by decide +kernel)];kernel_rfl) | (rw [if_neg (by decide +kernel)];exact ⟨rfl,rfl⟩))
  (fun os started H enc _=>lifted os started H enc)

/-- ████ THE STATEMENT ████ -/
theorem S8 :Rows.PartOffsetsSaid :=
 over
/-- The card: the row,its listed tables tied to the program's text. -/
theorem card :Rows.PartOffsetsCardSaid :=
 Claim7.holds_tied_plain_at .later [] [.data, .pinned] true (true, "4ecc0b3588063a331043dc168a4ca2a715ca78ff88f9ed876aa77f3dba7e7324") true
  S8 (fun _ h=>by cases h) k1 (fun _ h=>by cases h) partOffsets_row_tie rfl ⟨rfl,rfl⟩ k2 rfl
  (fun f fn hf hfn=>by
   obtain rfl : f = 4 := Option.some.inj ((show Tryz.prog.funcNamed "bollard/bollardlaw15.PartOffsets" = some 4 by kernel_rfl).symm.trans hf) |>.symm
   obtain rfl:fn=Tryz.f4:=(Option.some.inj (Tryz.func4.symm.trans hfn)).symm
   exact ⟨k4,fun j t ht=>by
    rw [Tryz.params4] at ht
    have hm:t∈[26,3]:=by simpa using Array.mem_of_getElem? ht
    have hall:([26,3].all fun u=>!Tryz.prog.wantsStandIn u)=true:=by kernel_rfl
    exact (show Tryz.prog.wantsStandIn t=false by simpa using List.all_eq_true.1 hall t hm)⟩)
  k6
#print axioms card
end Go.Proofs.YtmihjfcbofejoaaGreatDoor.partOffsets
