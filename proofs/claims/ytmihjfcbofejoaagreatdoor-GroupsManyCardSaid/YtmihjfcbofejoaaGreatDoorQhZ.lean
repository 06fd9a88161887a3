/- The law GroupsMany holds for every input;no condition. -/
import Derived.Test.YtmihjfcbofejoaaGreatDoorRows
import Derived.Test.YtmihjfcbofejoaaGreatDoorQh7
import Derived.WalkKit
import Derived.ProofKit
import Derived.OpenShut
import Derived.Carry
import Derived.LaidMore
import Derived.LaidHandle
import Derived.MakeChecks
import Derived.Stop.Joined
import Derived.SevenTiedAt
import Derived.Test.YtmihjfcbofejoaaGreatDoorCards
import Derived.Test.YtmihjfcbofejoaaGreatDoorTie
import Derived.ChangeSlices
import Derived.Deep.Slices
import Derived.Deep.Fields
namespace Go.Proofs.YtmihjfcbofejoaaGreatDoor.groupsMany
open Go.ChangeShapes Go.WideShapes Go.ChangeAt Go.RowKit
set_option linter.unusedVariables false
set_option linter.unusedSimpArgs false

theorem own :ownKnob Tryz.prog.godebug=none:=by kernel_rfl
theorem in64 {n:Int} (h:(Lit.int .i64 n).wf=true):-9223372036854775808<=n/\n<=9223372036854775807:=by
 simp [Lit.wf,IntKind.min,IntKind.max,IntKind.bits,IntKind.signed] at h;omega
theorem walk (w:World) (a0:Int) (w0:(Lit.int .i64 a0).wf=true) :
  Calls Tryz.prog 6 #[.int .i64 a0] w fun e w'=>e=.returned (.bool true)/\Below w.heap.size w w':=by
 have key:Calls Tryz.prog 6 #[.int .i64 a0] w fun e w'=>e=.returned (.bool true)/\Below w.heap.size w w':=by
  refine (iv (in64 w0) (Base.of w) [whole w] w (Sat.wholeOf w)).mono ?_
  rintro e w' ⟨v,M,rfl,⟨rfl,rfl⟩,hs⟩
  exact ⟨rfl,hs.belowOld .here⟩
 exact key

/-- A world whose tables read as listed. -/
noncomputable def laidWorld (os:Os):World :=
 let w0:=World.holding Tryz.prog os ⟨#[],#[],[]⟩
 let put (h:Array Obj) (g:Nat) (cs:Array Value):Array Obj:=h.modify g fun
  | .cells _ t frozen=>.cells cs t frozen
  | o=>o
 let h1:=put w0.heap 1 (Go.Pinned.utf8FirstZ.map fun (z:Nat)=>Value.int .u8 (z:Int)).toArray
 let h2:=put h1 2 ([128,191,160,191,128,159,144,191,128,143,0,0,0,0,0,0,0,0,0,0,0,0,0,0,0,0,0,0,0,0,0,0].map fun (z:Nat)=>Value.int .u8 (z:Int)).toArray
 { w0 with heap:=h2 }
theorem yi (os:Os) (args:Array Value):laidMetH Tryz.prog Rows.groupsManyRow.laid ((laidWorld os).forCall (fun _ _=>0) ⟨#[],args,[]⟩).memory:=by
 rw [MakeChecks.laidMetH_plain _ _ _ (by kernel_rfl)]
 exact laidMet_of_run' 10 (by kernel_rfl) (by kernel_rfl)

/-! ### THE ROW's STEP: WRITTEN OUT: LEAVE IT -/
set_option maxRecDepth 100000 in
theorem lifted (os:Os) (started:os.Started) (H:Type) (enc:TypeId×Value->H) :
  ReturnsInHanded {} Tryz.checked os 6 .any (fun w args=>(Rows.groupsManySpec.pre enc Tryz.prog Tryz.f6 [] false w args/\laidMetH Tryz.prog Rows.groupsManyRow.laid w)/\sizedMet enc Tryz.prog Tryz.f6 (OpenSpec.ofChange Rows.groupsManySpec) false w args) (Rows.groupsManySpec.post enc Tryz.prog Tryz.f6 false true false false):=by
 refine returnsInHanded_of_change_and (C:=Tryz.checked) (X:=fun w _=>laidMetH Tryz.prog Rows.groupsManyRow.laid w) (fun _ _ _ hh h=>h.of_heap hh) own started (by kernel_rfl) Tryz.func6
  (ChangeSpec.witness_at (enc:=enc) (C:=Tryz.checked) (os:=os) (X:=fun w _=>laidMetH Tryz.prog Rows.groupsManyRow.laid w) false (laidWorld os) #[.int .i64 0] 8 rfl (by kernel_rfl) (by kernel_rfl) (by kernel_rfl) (by kernel_rfl) (by kernel_rfl) (yi os _)) ?_
 intro W base args ds gs before hval0 hW hcnd _ _ _
 have hval:∀ (j:Nat) t v,Tryz.f6.params[j]?=some t->args[j]?=some v->Value.okWide Tryz.prog W .any base t v:=hval0
 have hW':=hW
 obtain ⟨p,q,hA0,hV,rfl,hfz,hnd⟩:=hW
 have hA:DataW.TrodAll enc Tryz.prog W 0 (fun _=>true) true Tryz.f6.params.toList args.toList ds p:=hA0
 rw [Tryz.params6] at hA hval
 obtain ⟨v0,vs0,d0,ds0,p0,q0,hargs,rfl,rfl,h0,r0⟩:=trodAll_cons hA
 obtain ⟨rfl,rfl,rfl⟩:=trodAll_nil r0
 obtain rfl:args=#[v0]:=by cases args;simp_all
 obtain ⟨rfl,rfl⟩:=trodVars_none hV
 obtain ⟨a0,rfl,rfl,rfl,w0⟩:=open_int Tryz.underlying3 (hval 0 3 v0 rfl rfl) h0
 clear hA0 hval0
 simp only [List.append_nil] at hW'
 refine (walk W a0 w0).mono fun e W' ⟨he,hg⟩=>?_
 subst he
 refine ⟨_,rfl,_,_,_,[],[],[],by simpa using hW',?_,?_,?_,hg.frame _,fun h=>by cases h⟩
 ·exact trodAll_cons_mk (shut_bool Tryz.underlying4 _) trodAll_mk0
 ·exact trodAll_cons_mk (shut_int Tryz.underlying3 w0) (trodAll_mk0)
 ·exact rfl

theorem K2 {P:Program} {f:FuncId} {fn:Func} {s:ChangeSpec} {c:OpenClaim} (h0:(c.wf (OpenSpec.ofChange s))=true) (h1:(laidOutB P)=true) (h2:(mapsRowed P)=true) (h3:(fn.params.all (P.readableRec ·))=true) (h4:(namedTie P c.named s.vars)=true) (h5:((c.stops==[]))=true) (h6:((P.stops==[]))=true) (h7:((c.knobs==[]))=true) (h8:((P.stopKnobs==[]))=true) (h9:((c.inPlace==P.inPlace f))=true) (h10:((c.unfollowed==P.unfollowed f))=true) (h11:((c.recurses==P.recurses f))=true) (h12:((c.named==P.varsNamed f))=true) (h13:((c.maps==(fn.params.toList++s.plain.varTypes P).any (P.mapsRec ·)))=true) (h14:((c.ifaces==(fn.params.toList++s.plain.varTypes P).any (P.ifacesRec ·)))=true) (h15:((c.mapsOut==P.mapsAmong fn.resultTypes.toList))=true) (h16:((c.loops==(fn.params.toList++s.plain.varTypes P).any (P.loopsFrom ·)))=true) (h17:((c.wideKeys==(fn.params.toList++s.plain.varTypes P++fn.resultTypes.toList).any (P.wideKeysFrom ·)))=true) (h18:(s.vars.all (P.varReadable ·))=true) (h19:(fn.resultTypes.all (fun t=>P.readableRec t && decide (t < P.types.size)))=true) (h20:((c.ifacesOut==fn.resultTypes.toList.any (P.ifacesRec ·)))=true) (h21:((c.loopsOut==fn.resultTypes.toList.any (P.loopsFrom ·)))=true) (h22:((c.plainKeys==P.plainKeys))=true) (h23:(c.shortTexts.isNone)=true) (h24:(P.stopsHeard)=true) (h25:(P.mayEnter)=true) (h26:((c.lifted==P.liftsFinal))=true) (h27:((P.make==some c.make))=true) (h28:((c.kinds==(if c.domain.isEmpty then [] else fn.params.toList.map fun t=>match P.underlying t with | some (.int k)=>some k | _=>none)))=true) (h29:((c.pinned==c.pinnedBy))=true) (h30:((c.veiled==(fn.params.toList++s.plain.varTypes P++fn.resultTypes.toList).any (P.veiledRec ·)))=true) (h31:(c.veiledFits P fn.params.toList (fn.params.toList++s.plain.varTypes P++fn.resultTypes.toList))=true):joinedFacts P f fn s c=true:=by
 simp only [joinedFacts,Bool.and_eq_true]
 exact ⟨⟨⟨⟨⟨⟨⟨⟨⟨⟨⟨⟨⟨⟨⟨⟨⟨⟨⟨⟨⟨⟨⟨⟨⟨⟨⟨⟨⟨⟨⟨h0,h1⟩,h2⟩,h3⟩,h4⟩,h5⟩,h6⟩,h7⟩,h8⟩,h9⟩,h10⟩,h11⟩,h12⟩,h13⟩,h14⟩,h15⟩,h16⟩,h17⟩,h18⟩,h19⟩,h20⟩,h21⟩,h22⟩,h23⟩,h24⟩,h25⟩,h26⟩,h27⟩,h28⟩,h29⟩,h30⟩,h31⟩
theorem j0 :(Rows.groupsManyRow.wf (OpenSpec.ofChange Rows.groupsManySpec))=true:=by kernel_rfl
theorem j1 :(laidOutB Tryz.prog)=true:=by kernel_rfl
theorem j2 :(mapsRowed Tryz.prog)=true:=by kernel_rfl
theorem j3 :(Tryz.f6.params.all (Tryz.prog.readableRec ·))=true:=by kernel_rfl
theorem j4 :(namedTie Tryz.prog Rows.groupsManyRow.named Rows.groupsManySpec.vars)=true:=by kernel_rfl
theorem j5 :((Rows.groupsManyRow.stops==[]))=true:=by kernel_rfl
theorem j6 :((Tryz.prog.stops==[]))=true:=by kernel_rfl
theorem j7 :((Rows.groupsManyRow.knobs==[]))=true:=by kernel_rfl
theorem j8 :((Tryz.prog.stopKnobs==[]))=true:=by kernel_rfl
theorem j9 :((Rows.groupsManyRow.inPlace==Tryz.prog.inPlace 6))=true:=by kernel_rfl
theorem j10 :((Rows.groupsManyRow.unfollowed==Tryz.prog.unfollowed 6))=true:=by kernel_rfl
theorem j11 :((Rows.groupsManyRow.recurses==Tryz.prog.recurses 6))=true:=by kernel_rfl
theorem j12 :((Rows.groupsManyRow.named==Tryz.prog.varsNamed 6))=true:=by kernel_rfl
theorem j13 :((Rows.groupsManyRow.maps==(Tryz.f6.params.toList++Rows.groupsManySpec.plain.varTypes Tryz.prog).any (Tryz.prog.mapsRec ·)))=true:=by kernel_rfl
theorem j14 :((Rows.groupsManyRow.ifaces==(Tryz.f6.params.toList++Rows.groupsManySpec.plain.varTypes Tryz.prog).any (Tryz.prog.ifacesRec ·)))=true:=by kernel_rfl
theorem j15 :((Rows.groupsManyRow.mapsOut==Tryz.prog.mapsAmong Tryz.f6.resultTypes.toList))=true:=by kernel_rfl
theorem j16 :((Rows.groupsManyRow.loops==(Tryz.f6.params.toList++Rows.groupsManySpec.plain.varTypes Tryz.prog).any (Tryz.prog.loopsFrom ·)))=true:=by kernel_rfl
theorem j17 :((Rows.groupsManyRow.wideKeys==(Tryz.f6.params.toList++Rows.groupsManySpec.plain.varTypes Tryz.prog++Tryz.f6.resultTypes.toList).any (Tryz.prog.wideKeysFrom ·)))=true:=by kernel_rfl
theorem j18 :(Rows.groupsManySpec.vars.all (Tryz.prog.varReadable ·))=true:=by kernel_rfl
theorem j19 :(Tryz.f6.resultTypes.all (fun t=>Tryz.prog.readableRec t && decide (t < Tryz.prog.types.size)))=true:=by kernel_rfl
theorem j20 :((Rows.groupsManyRow.ifacesOut==Tryz.f6.resultTypes.toList.any (Tryz.prog.ifacesRec ·)))=true:=by kernel_rfl
theorem j21 :((Rows.groupsManyRow.loopsOut==Tryz.f6.resultTypes.toList.any (Tryz.prog.loopsFrom ·)))=true:=by kernel_rfl
theorem j22 :((Rows.groupsManyRow.plainKeys==Tryz.prog.plainKeys))=true:=by kernel_rfl
theorem j23 :(Rows.groupsManyRow.shortTexts.isNone)=true:=by kernel_rfl
theorem j24 :(Tryz.prog.stopsHeard)=true:=by kernel_rfl
theorem j25 :(Tryz.prog.mayEnter)=true:=by kernel_rfl
theorem j26 :((Rows.groupsManyRow.lifted==Tryz.prog.liftsFinal))=true:=by kernel_rfl
theorem j27 :((Tryz.prog.make==some Rows.groupsManyRow.make))=true:=by kernel_rfl
theorem j28 :((Rows.groupsManyRow.kinds==(if Rows.groupsManyRow.domain.isEmpty then [] else Tryz.f6.params.toList.map fun t=>match Tryz.prog.underlying t with | some (.int k)=>some k | _=>none)))=true:=by kernel_rfl
theorem j29 :((Rows.groupsManyRow.pinned==Rows.groupsManyRow.pinnedBy))=true:=by kernel_rfl
theorem j30 :((Rows.groupsManyRow.veiled==(Tryz.f6.params.toList++Rows.groupsManySpec.plain.varTypes Tryz.prog++Tryz.f6.resultTypes.toList).any (Tryz.prog.veiledRec ·)))=true:=by kernel_rfl
theorem j31 :(Rows.groupsManyRow.veiledFits Tryz.prog Tryz.f6.params.toList (Tryz.f6.params.toList++Rows.groupsManySpec.plain.varTypes Tryz.prog++Tryz.f6.resultTypes.toList))=true:=by kernel_rfl
theorem Uw :joinedFacts Tryz.prog 6 Tryz.f6 Rows.groupsManySpec Rows.groupsManyRow=true:=K2 j0 j1 j2 j3 j4 j5 j6 j7 j8 j9 j10 j11 j12 j13 j14 j15 j16 j17 j18 j19 j20 j21 j22 j23 j24 j25 j26 j27 j28 j29 j30 j31
theorem k1 :Rows.groupsManyRow.wfByText (OpenSpec.ofChange Rows.groupsManySpec)=true:=by kernel_rfl
theorem k2 : Tryz.prog.mainIs = some ((true, "4ecc0b3588063a331043dc168a4ca2a715ca78ff88f9ed876aa77f3dba7e7324").1, (true, "4ecc0b3588063a331043dc168a4ca2a715ca78ff88f9ed876aa77f3dba7e7324").2.toList) := by kernel_rfl
theorem k4 :true=Tryz.prog.looks []:=by kernel_rfl
theorem k6 :false=Rows.groupsManyRow.goesBy Tryz.prog:=by kernel_rfl
theorem over :Rows.groupsManyRow.holds Tryz.pinned (OpenSpec.ofChange Rows.groupsManySpec) :=
 OpenClaim.holds_of_wide 6 Tryz.f6 rfl rfl rfl rfl rfl rfl rfl ⟨rfl,rfl,rfl,rfl,rfl⟩ rfl rfl rfl rfl rfl (by kernel_rfl) Tryz.func6 Uw
  (of_decide_eq_true (by kernel_rfl)) (by unfold Func.isWrapper;first | (rw [if_pos (by decide +kernel)];kernel_rfl) | (rw [if_neg (by decide +kernel)];exact ⟨rfl,rfl⟩))
  (fun os started H enc _=>lifted os started H enc)

/-- ████ THE STATEMENT ████ -/
theorem Ux :Rows.GroupsManySaid :=
 over
/-- The card: the row,its listed tables tied to the program's text. -/
theorem card :Rows.GroupsManyCardSaid :=
 Claim7.holds_tied_plain_at .later [] [.data, .pinned] true (true, "4ecc0b3588063a331043dc168a4ca2a715ca78ff88f9ed876aa77f3dba7e7324") true
  Ux (fun _ h=>by cases h) k1 (fun _ h=>by cases h) groupsMany_row_tie rfl ⟨rfl,rfl⟩ k2 rfl
  (fun f fn hf hfn=>by
   obtain rfl : f = 6 := Option.some.inj ((show Tryz.prog.funcNamed "bollard/bollardlaw18.GroupsMany" = some 6 by kernel_rfl).symm.trans hf) |>.symm
   obtain rfl:fn=Tryz.f6:=(Option.some.inj (Tryz.func6.symm.trans hfn)).symm
   exact ⟨k4,fun j t ht=>by
    rw [Tryz.params6] at ht
    have hm:t∈[3]:=by simpa using Array.mem_of_getElem? ht
    have hall:([3].all fun u=>!Tryz.prog.wantsStandIn u)=true:=by kernel_rfl
    exact (show Tryz.prog.wantsStandIn t=false by simpa using List.all_eq_true.1 hall t hm)⟩)
  k6
#print axioms card
end Go.Proofs.YtmihjfcbofejoaaGreatDoor.groupsMany
