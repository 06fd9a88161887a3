/- The law PartRefuses holds for every input;no condition. -/
import Derived.Test.YtmihjfcbofejoaaGreatDoorRows
import Derived.Test.YtmihjfcbofejoaaGreatDoorQg7
import Derived.WalkKit
import Derived.ProofKit
import Derived.OpenShut
import Derived.Carry
import Derived.LaidMore
import Derived.LaidHandle
import Derived.MakeChecks
import Derived.Stop.Joined
import Derived.SevenTiedAt
import Derived.Test.YtmihjfcbofejoaaGreatDoorCards
import Derived.Test.YtmihjfcbofejoaaGreatDoorTie
import Derived.ChangeSlices
import Derived.Deep.Slices
import Derived.Deep.Fields
import Derived.ChangeSame
namespace Go.Proofs.YtmihjfcbofejoaaGreatDoor.partRefuses
open Go.ChangeShapes Go.WideShapes Go.ChangeAt Go.RowKit
set_option linter.unusedVariables false
set_option linter.unusedSimpArgs false

theorem own :ownKnob Tryz.prog.godebug=none:=by kernel_rfl
theorem in64 {n:Int} (h:(Lit.int .i64 n).wf=true):-9223372036854775808<=n/\n<=9223372036854775807:=by
 simp [Lit.wf,IntKind.min,IntKind.max,IntKind.bits,IntKind.signed] at h;omega
theorem arr23 {α:Type} {cs:Array α} (h:cs.size=5):∃ c0 c1 c2 c3 c4,cs=#[c0,c1,c2,c3,c4]:=by
 obtain ⟨l⟩:=cs
 match l,h with
 | [c0,c1,c2,c3,c4],_=>exact ⟨c0,c1,c2,c3,c4,rfl⟩
theorem lst23 {α:Type} {l:List α} (h:l.length=5):∃ c0 c1 c2 c3 c4,l=[c0,c1,c2,c3,c4]:=by
 match l,h with
 | [c0,c1,c2,c3,c4],_=>exact ⟨c0,c1,c2,c3,c4,rfl⟩
theorem cl23 :Tryz.prog.cellsOf 23=5:=by kernel_rfl
theorem vq :Tryz.prog.cellsOf 3=1:=by kernel_rfl
theorem vr :Tryz.prog.cellsOf 4=1:=by kernel_rfl
theorem vu :Tryz.prog.cellsOf 9=1:=by kernel_rfl
section
variable {H:Type} {enc:TypeId×Value->H} {w:World} {base:Nat} {spare:Nat->Bool} {held:Bool}
set_option maxRecDepth 100000 in
theorem Js {r:Reach} {b0:Nat} {v:Value} {d:DataW H} {ps:List MemPlace} (hval:Value.okWide Tryz.prog w r b0 23 v) (hd:DataW.Trod enc Tryz.prog w base spare held 23 v d ps) :
  ∃ (x0:Int) (x1:Int) (x2:Int) (x3:Bool) (x4:Int),v=.agg #[.int .i64 x0,.int .i64 x1,.int .i64 x2,.bool x3,.int .i64 x4]/\d=.agg [.lit (.int .i64 x0),.lit (.int .i64 x1),.lit (.int .i64 x2),.lit (.bool x3),.lit (.int .i64 x4)]/\ps=[]/\(Lit.int .i64 x0).wf=true/\(Lit.int .i64 x1).wf=true/\(Lit.int .i64 x2).wf=true/\(Lit.int .i64 x4).wf=true:=by
 obtain ⟨cs,rfl,hsz⟩:=okWide_struct Tryz.underlying23 hval
 obtain ⟨c0,c1,c2,c3,c4,rfl⟩:=arr23 (hsz.trans cl23)
 obtain ⟨fuel,hf⟩:=hd
 obtain ⟨xs,n,_,hx,_,hlen,hfs⟩:=DataW.trod_struct Tryz.underlying23 hf
 obtain ⟨y0,y1,y2,y3,y4,rfl⟩:=lst23 hlen
 have h0:DataW.trod enc Tryz.prog w base spare held n 3 [c0]=some y0:=by have h:=hfs 0 _ rfl;simpa [Value.cells,vq,vr,vu] using h
 have h1:DataW.trod enc Tryz.prog w base spare held n 3 [c1]=some y1:=by have h:=hfs 1 _ rfl;simpa [Value.cells,vq,vr,vu] using h
 have h2:DataW.trod enc Tryz.prog w base spare held n 3 [c2]=some y2:=by have h:=hfs 2 _ rfl;simpa [Value.cells,vq,vr,vu] using h
 have h3:DataW.trod enc Tryz.prog w base spare held n 4 [c3]=some y3:=by have h:=hfs 3 _ rfl;simpa [Value.cells,vq,vr,vu] using h
 have h4:DataW.trod enc Tryz.prog w base spare held n 3 [c4]=some y4:=by have h:=hfs 4 _ rfl;simpa [Value.cells,vq,vr,vu] using h
 obtain ⟨x0,e0,z0,w0⟩:=DataW.trod_int Tryz.underlying3 h0
 obtain ⟨x1,e1,z1,w1⟩:=DataW.trod_int Tryz.underlying3 h1
 obtain ⟨x2,e2,z2,w2⟩:=DataW.trod_int Tryz.underlying3 h2
 obtain ⟨x3,e3,z3⟩:=DataW.trod_bool Tryz.underlying4 h3
 obtain ⟨x4,e4,z4,w4⟩:=DataW.trod_int Tryz.underlying3 h4
 injection e0 with e0
 injection e1 with e1
 injection e2 with e2
 injection e3 with e3
 injection e4 with e4
 subst e0 e1 e2 e3 e4 z0 z1 z2 z3 z4
 obtain ⟨rfl,rfl⟩:=Prod.mk.inj hx
 exact ⟨x0,x1,x2,x3,x4,rfl,rfl,rfl,w0,w1,w2,w4⟩
set_option maxRecDepth 100000 in
theorem Jt {x0:Int} {x1:Int} {x2:Int} {x3:Bool} {x4:Int} (w0:(Lit.int .i64 x0).wf=true) (w1:(Lit.int .i64 x1).wf=true) (w2:(Lit.int .i64 x2).wf=true) (w4:(Lit.int .i64 x4).wf=true):DataW.Trod enc Tryz.prog w base spare held 23 (.agg #[.int .i64 x0,.int .i64 x1,.int .i64 x2,.bool x3,.int .i64 x4]) (.agg [.lit (.int .i64 x0),.lit (.int .i64 x1),.lit (.int .i64 x2),.lit (.bool x3),.lit (.int .i64 x4)]) []:=by
 have hI:∀ x:Int,(Lit.int .i64 x).wf=true->DataW.trod enc Tryz.prog w base spare held 1 3 [.int .i64 x]=some (.lit (.int .i64 x),[]):=fun x hw=>by simp [DataW.trod,Tryz.underlying3,hw]
 have hB:∀ x:Bool,DataW.trod enc Tryz.prog w base spare held 1 4 [.bool x]=some (.lit (.bool x),[]):=fun x=>by simp [DataW.trod,Tryz.underlying4]
 have hS:∀ x:ByteArray,x.size<=maxLen->DataW.trod enc Tryz.prog w base spare held 1 9 [.string x]=some (.lit (.string x.data.toList),[]):=fun x hw=>by simp [DataW.trod,Tryz.underlying9,hw]
 exact ⟨2,trod_struct_mk (enc:=enc) (w:=w) (base:=base) (spare:=spare) (held:=held) (n:=1) (cs:=[.int .i64 x0,.int .i64 x1,.int .i64 x2,.bool x3,.int .i64 x4]) (xs:=[(.lit (.int .i64 x0),[]),(.lit (.int .i64 x1),[]),(.lit (.int .i64 x2),[]),(.lit (.bool x3),[]),(.lit (.int .i64 x4),[])]) Tryz.underlying23 cl23.symm (by simp [vq,vr,vu,hI _ w0,hI _ w1,hI _ w2,hI _ w4,hB])⟩
end
theorem walk (w:World) (a0_0:Int) (w0_0:(Lit.int .i64 a0_0).wf=true) (a0_1:Int) (w0_1:(Lit.int .i64 a0_1).wf=true) (a0_2:Int) (w0_2:(Lit.int .i64 a0_2).wf=true) (a0_3:Bool) (a0_4:Int) (w0_4:(Lit.int .i64 a0_4).wf=true) (a1:Int) (w1:(Lit.int .i64 a1).wf=true) :
  Calls Tryz.prog 8 #[.agg #[.int .i64 a0_0,.int .i64 a0_1,.int .i64 a0_2,.bool a0_3,.int .i64 a0_4],.int .i64 a1] w fun e w'=>e=.returned (.bool true)/\Below w.heap.size w w':=by
 have key:Calls Tryz.prog 8 #[.agg #[.int .i64 a0_0,.int .i64 a0_1,.int .i64 a0_2,.bool a0_3,.int .i64 a0_4],.int .i64 a1] w fun e w'=>e=.returned (.bool true)/\Below w.heap.size w w':=by
  refine (ev (s:=⟨a0_0,a0_1,a0_2,a0_3,a0_4⟩) (in64 w1) (Base.of w) [whole w] w (Sat.wholeOf w)).mono ?_
  rintro e w' ⟨v,M,rfl,⟨rfl,rfl⟩,hs⟩
  exact ⟨rfl,hs.belowOld .here⟩
 exact key

/-- A world whose tables read as listed. -/
noncomputable def laidWorld (os:Os):World :=
 let w0:=World.holding Tryz.prog os ⟨#[],#[],[]⟩
 let put (h:Array Obj) (g:Nat) (cs:Array Value):Array Obj:=h.modify g fun
  | .cells _ t frozen=>.cells cs t frozen
  | o=>o
 let h1:=put w0.heap 1 (Go.Pinned.utf8FirstZ.map fun (z:Nat)=>Value.int .u8 (z:Int)).toArray
 let h2:=put h1 2 ([128,191,160,191,128,159,144,191,128,143,0,0,0,0,0,0,0,0,0,0,0,0,0,0,0,0,0,0,0,0,0,0].map fun (z:Nat)=>Value.int .u8 (z:Int)).toArray
 { w0 with heap:=h2 }
theorem ya (os:Os) (args:Array Value):laidMetH Tryz.prog Rows.partRefusesRow.laid ((laidWorld os).forCall (fun _ _=>0) ⟨#[],args,[]⟩).memory:=by
 rw [MakeChecks.laidMetH_plain _ _ _ (by kernel_rfl)]
 exact laidMet_of_run' 10 (by kernel_rfl) (by kernel_rfl)

/-! ### THE ROW's STEP: WRITTEN OUT: LEAVE IT -/
set_option maxRecDepth 100000 in
theorem lifted (os:Os) (started:os.Started) (H:Type) (enc:TypeId×Value->H) :
  ReturnsInHanded {} Tryz.checked os 8 .any (fun w args=>(Rows.partRefusesSpec.pre enc Tryz.prog Tryz.f8 [] false w args/\laidMetH Tryz.prog Rows.partRefusesRow.laid w)/\sizedMet enc Tryz.prog Tryz.f8 (OpenSpec.ofChange Rows.partRefusesSpec) false w args) (Rows.partRefusesSpec.post enc Tryz.prog Tryz.f8 false true false false):=by
 refine returnsInHanded_of_change_and (C:=Tryz.checked) (X:=fun w _=>laidMetH Tryz.prog Rows.partRefusesRow.laid w) (fun _ _ _ hh h=>h.of_heap hh) own started (by kernel_rfl) Tryz.func8
  (ChangeSpec.witness_at (enc:=enc) (C:=Tryz.checked) (os:=os) (X:=fun w _=>laidMetH Tryz.prog Rows.partRefusesRow.laid w) false (laidWorld os) #[.agg #[.int .i64 0,.int .i64 0,.int .i64 0,.bool false,.int .i64 0],.int .i64 0] 8 rfl (by kernel_rfl) (by kernel_rfl) (by kernel_rfl) (by kernel_rfl) (by kernel_rfl) (ya os _)) ?_
 intro W base args ds gs before hval0 hW hcnd _ _ _
 have hval:∀ (j:Nat) t v,Tryz.f8.params[j]?=some t->args[j]?=some v->Value.okWide Tryz.prog W .any base t v:=hval0
 have hW':=hW
 obtain ⟨p,q,hA0,hV,rfl,hfz,hnd⟩:=hW
 have hA:DataW.TrodAll enc Tryz.prog W 0 (fun _=>true) true Tryz.f8.params.toList args.toList ds p:=hA0
 rw [Tryz.params8] at hA hval
 obtain ⟨v0,vs0,d0,ds0,p0,q0,hargs,rfl,rfl,h0,r0⟩:=trodAll_cons hA
 obtain ⟨v1,vs1,d1,ds1,p1,q1,rfl,rfl,rfl,h1,r1⟩:=trodAll_cons r0
 obtain ⟨rfl,rfl,rfl⟩:=trodAll_nil r1
 obtain rfl:args=#[v0,v1]:=by cases args;simp_all
 obtain ⟨rfl,rfl⟩:=trodVars_none hV
 obtain ⟨a0_0,a0_1,a0_2,a0_3,a0_4,rfl,rfl,rfl,w0_0,w0_1,w0_2,w0_4⟩:=Js (hval 0 23 v0 rfl rfl) h0
 obtain ⟨a1,rfl,rfl,rfl,w1⟩:=open_int Tryz.underlying3 (hval 1 3 v1 rfl rfl) h1
 clear hA0 hval0
 simp only [List.append_nil] at hW'
 refine (walk W a0_0 w0_0 a0_1 w0_1 a0_2 w0_2 a0_3 a0_4 w0_4 a1 w1).mono fun e W' ⟨he,hg⟩=>?_
 subst he
 refine ⟨_,rfl,_,_,_,[],[],[],by simpa using hW',?_,?_,?_,hg.frame _,fun h=>by cases h⟩
 ·exact trodAll_cons_mk (shut_bool Tryz.underlying4 _) trodAll_mk0
 ·exact trodAll_cons_mk (Jt w0_0 w0_1 w0_2 w0_4) (trodAll_cons_mk (shut_int Tryz.underlying3 w1) (trodAll_mk0))
 ·exact rfl

theorem Ju {P:Program} {f:FuncId} {fn:Func} {s:ChangeSpec} {c:OpenClaim} (h0:(c.wf (OpenSpec.ofChange s))=true) (h1:(laidOutB P)=true) (h2:(mapsRowed P)=true) (h3:(fn.params.all (P.readableRec ·))=true) (h4:(namedTie P c.named s.vars)=true) (h5:((c.stops==[]))=true) (h6:((P.stops==[]))=true) (h7:((c.knobs==[]))=true) (h8:((P.stopKnobs==[]))=true) (h9:((c.inPlace==P.inPlace f))=true) (h10:((c.unfollowed==P.unfollowed f))=true) (h11:((c.recurses==P.recurses f))=true) (h12:((c.named==P.varsNamed f))=true) (h13:((c.maps==(fn.params.toList++s.plain.varTypes P).any (P.mapsRec ·)))=true) (h14:((c.ifaces==(fn.params.toList++s.plain.varTypes P).any (P.ifacesRec ·)))=true) (h15:((c.mapsOut==P.mapsAmong fn.resultTypes.toList))=true) (h16:((c.loops==(fn.params.toList++s.plain.varTypes P).any (P.loopsFrom ·)))=true) (h17:((c.wideKeys==(fn.params.toList++s.plain.varTypes P++fn.resultTypes.toList).any (P.wideKeysFrom ·)))=true) (h18:(s.vars.all (P.varReadable ·))=true) (h19:(fn.resultTypes.all (fun t=>P.readableRec t && decide (t < P.types.size)))=true) (h20:((c.ifacesOut==fn.resultTypes.toList.any (P.ifacesRec ·)))=true) (h21:((c.loopsOut==fn.resultTypes.toList.any (P.loopsFrom ·)))=true) (h22:((c.plainKeys==P.plainKeys))=true) (h23:(c.shortTexts.isNone)=true) (h24:(P.stopsHeard)=true) (h25:(P.mayEnter)=true) (h26:((c.lifted==P.liftsFinal))=true) (h27:((P.make==some c.make))=true) (h28:((c.kinds==(if c.domain.isEmpty then [] else fn.params.toList.map fun t=>match P.underlying t with | some (.int k)=>some k | _=>none)))=true) (h29:((c.pinned==c.pinnedBy))=true) (h30:((c.veiled==(fn.params.toList++s.plain.varTypes P++fn.resultTypes.toList).any (P.veiledRec ·)))=true) (h31:(c.veiledFits P fn.params.toList (fn.params.toList++s.plain.varTypes P++fn.resultTypes.toList))=true):joinedFacts P f fn s c=true:=by
 simp only [joinedFacts,Bool.and_eq_true]
 exact ⟨⟨⟨⟨⟨⟨⟨⟨⟨⟨⟨⟨⟨⟨⟨⟨⟨⟨⟨⟨⟨⟨⟨⟨⟨⟨⟨⟨⟨⟨⟨h0,h1⟩,h2⟩,h3⟩,h4⟩,h5⟩,h6⟩,h7⟩,h8⟩,h9⟩,h10⟩,h11⟩,h12⟩,h13⟩,h14⟩,h15⟩,h16⟩,h17⟩,h18⟩,h19⟩,h20⟩,h21⟩,h22⟩,h23⟩,h24⟩,h25⟩,h26⟩,h27⟩,h28⟩,h29⟩,h30⟩,h31⟩
theorem j0 :(Rows.partRefusesRow.wf (OpenSpec.ofChange Rows.partRefusesSpec))=true:=by kernel_rfl
theorem j1 :(laidOutB Tryz.prog)=true:=by kernel_rfl
theorem j2 :(mapsRowed Tryz.prog)=true:=by kernel_rfl
theorem j3 :(Tryz.f8.params.all (Tryz.prog.readableRec ·))=true:=by kernel_rfl
theorem j4 :(namedTie Tryz.prog Rows.partRefusesRow.named Rows.partRefusesSpec.vars)=true:=by kernel_rfl
theorem j5 :((Rows.partRefusesRow.stops==[]))=true:=by kernel_rfl
theorem j6 :((Tryz.prog.stops==[]))=true:=by kernel_rfl
theorem j7 :((Rows.partRefusesRow.knobs==[]))=true:=by kernel_rfl
theorem j8 :((Tryz.prog.stopKnobs==[]))=true:=by kernel_rfl
theorem j9 :((Rows.partRefusesRow.inPlace==Tryz.prog.inPlace 8))=true:=by kernel_rfl
theorem j10 :((Rows.partRefusesRow.unfollowed==Tryz.prog.unfollowed 8))=true:=by kernel_rfl
theorem j11 :((Rows.partRefusesRow.recurses==Tryz.prog.recurses 8))=true:=by kernel_rfl
theorem j12 :((Rows.partRefusesRow.named==Tryz.prog.varsNamed 8))=true:=by kernel_rfl
theorem j13 :((Rows.partRefusesRow.maps==(Tryz.f8.params.toList++Rows.partRefusesSpec.plain.varTypes Tryz.prog).any (Tryz.prog.mapsRec ·)))=true:=by kernel_rfl
theorem j14 :((Rows.partRefusesRow.ifaces==(Tryz.f8.params.toList++Rows.partRefusesSpec.plain.varTypes Tryz.prog).any (Tryz.prog.ifacesRec ·)))=true:=by kernel_rfl
theorem j15 :((Rows.partRefusesRow.mapsOut==Tryz.prog.mapsAmong Tryz.f8.resultTypes.toList))=true:=by kernel_rfl
theorem j16 :((Rows.partRefusesRow.loops==(Tryz.f8.params.toList++Rows.partRefusesSpec.plain.varTypes Tryz.prog).any (Tryz.prog.loopsFrom ·)))=true:=by kernel_rfl
theorem j17 :((Rows.partRefusesRow.wideKeys==(Tryz.f8.params.toList++Rows.partRefusesSpec.plain.varTypes Tryz.prog++Tryz.f8.resultTypes.toList).any (Tryz.prog.wideKeysFrom ·)))=true:=by kernel_rfl
theorem j18 :(Rows.partRefusesSpec.vars.all (Tryz.prog.varReadable ·))=true:=by kernel_rfl
theorem j19 :(Tryz.f8.resultTypes.all (fun t=>Tryz.prog.readableRec t && decide (t < Tryz.prog.types.size)))=true:=by kernel_rfl
theorem j20 :((Rows.partRefusesRow.ifacesOut==Tryz.f8.resultTypes.toList.any (Tryz.prog.ifacesRec ·)))=true:=by kernel_rfl
theorem j21 :((Rows.partRefusesRow.loopsOut==Tryz.f8.resultTypes.toList.any (Tryz.prog.loopsFrom ·)))=true:=by kernel_rfl
theorem j22 :((Rows.partRefusesRow.plainKeys==Tryz.prog.plainKeys))=true:=by kernel_rfl
theorem j23 :(Rows.partRefusesRow.shortTexts.isNone)=true:=by kernel_rfl
theorem j24 :(Tryz.prog.stopsHeard)=true:=by kernel_rfl
theorem j25 :(Tryz.prog.mayEnter)=true:=by kernel_rfl
theorem j26 :((Rows.partRefusesRow.lifted==Tryz.prog.liftsFinal))=true:=by kernel_rfl
theorem j27 :((Tryz.prog.make==some Rows.partRefusesRow.make))=true:=by kernel_rfl
theorem j28 :((Rows.partRefusesRow.kinds==(if Rows.partRefusesRow.domain.isEmpty then [] else Tryz.f8.params.toList.map fun t=>match Tryz.prog.underlying t with | some (.int k)=>some k | _=>none)))=true:=by kernel_rfl
theorem j29 :((Rows.partRefusesRow.pinned==Rows.partRefusesRow.pinnedBy))=true:=by kernel_rfl
theorem j30 :((Rows.partRefusesRow.veiled==(Tryz.f8.params.toList++Rows.partRefusesSpec.plain.varTypes Tryz.prog++Tryz.f8.resultTypes.toList).any (Tryz.prog.veiledRec ·)))=true:=by kernel_rfl
theorem j31 :(Rows.partRefusesRow.veiledFits Tryz.prog Tryz.f8.params.toList (Tryz.f8.params.toList++Rows.partRefusesSpec.plain.varTypes Tryz.prog++Tryz.f8.resultTypes.toList))=true:=by kernel_rfl
theorem Tw :joinedFacts Tryz.prog 8 Tryz.f8 Rows.partRefusesSpec Rows.partRefusesRow=true:=Ju j0 j1 j2 j3 j4 j5 j6 j7 j8 j9 j10 j11 j12 j13 j14 j15 j16 j17 j18 j19 j20 j21 j22 j23 j24 j25 j26 j27 j28 j29 j30 j31
theorem k1 :Rows.partRefusesRow.wfByText (OpenSpec.ofChange Rows.partRefusesSpec)=true:=by kernel_rfl
theorem k2 : Tryz.prog.mainIs = some ((true, "4ecc0b3588063a331043dc168a4ca2a715ca78ff88f9ed876aa77f3dba7e7324").1, (true, "4ecc0b3588063a331043dc168a4ca2a715ca78ff88f9ed876aa77f3dba7e7324").2.toList) := by kernel_rfl
theorem k4 :true=Tryz.prog.looks []:=by kernel_rfl
theorem k6 :false=Rows.partRefusesRow.goesBy Tryz.prog:=by kernel_rfl
theorem over :Rows.partRefusesRow.holds Tryz.pinned (OpenSpec.ofChange Rows.partRefusesSpec) :=
 OpenClaim.holds_of_wide 8 Tryz.f8 rfl rfl rfl rfl rfl rfl rfl ⟨rfl,rfl,rfl,rfl,rfl⟩ rfl rfl rfl rfl rfl (by kernel_rfl) Tryz.func8 Tw
  (of_decide_eq_true (by kernel_rfl)) (by unfold Func.isWrapper;first | (rw [if_pos (by decide +kernel)];kernel_rfl) | (rw [if_neg (by decide +kernel)];exact ⟨rfl,rfl⟩))
  (fun os started H enc _=>lifted os started H enc)

/-- ████ THE STATEMENT ████ -/
theorem Tx :Rows.PartRefusesSaid :=
 over
/-- The card: the row,its listed tables tied to the program's text. -/
theorem card :Rows.PartRefusesCardSaid :=
 Claim7.holds_tied_plain_at .later [] [.data, .pinned] true (true, "4ecc0b3588063a331043dc168a4ca2a715ca78ff88f9ed876aa77f3dba7e7324") true
  Tx (fun _ h=>by cases h) k1 (fun _ h=>by cases h) partRefuses_row_tie rfl ⟨rfl,rfl⟩ k2 rfl
  (fun f fn hf hfn=>by
   obtain rfl : f = 8 := Option.some.inj ((show Tryz.prog.funcNamed "bollard/bollardlaw15.PartRefuses" = some 8 by kernel_rfl).symm.trans hf) |>.symm
   obtain rfl:fn=Tryz.f8:=(Option.some.inj (Tryz.func8.symm.trans hfn)).symm
   exact ⟨k4,fun j t ht=>by
    rw [Tryz.params8] at ht
    have hm:t∈[23,3]:=by simpa using Array.mem_of_getElem? ht
    have hall:([23,3].all fun u=>!Tryz.prog.wantsStandIn u)=true:=by kernel_rfl
    exact (show Tryz.prog.wantsStandIn t=false by simpa using List.all_eq_true.1 hall t hm)⟩)
  k6
#print axioms card
end Go.Proofs.YtmihjfcbofejoaaGreatDoor.partRefuses
