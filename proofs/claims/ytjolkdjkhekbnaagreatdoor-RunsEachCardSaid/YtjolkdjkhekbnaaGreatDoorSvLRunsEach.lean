/- The row, and the tied card, of the law RunsEach: out of what its function tells (znd) and the evaluator. Written by a program (law3.py). -/
import Derived.Test.YtjolkdjkhekbnaaGreatDoorRows
import Derived.Test.YtjolkdjkhekbnaaGreatDoorX13
import Derived.Test.YtjolkdjkhekbnaaGreatDoorW14e
import Derived.Test.YtjolkdjkhekbnaaGreatDoorSvJ
import Derived.Test.YtjolkdjkhekbnaaGreatDoorCards
import Derived.Test.YtjolkdjkhekbnaaGreatDoorTie
import Derived.WalkKit
import Derived.ProofKit
import Derived.OpenShut
import Derived.ShutString
import Derived.ChangeOld
import Derived.Below
import Derived.Carry
import Derived.SizedLaws
import Derived.LaidMore
import Derived.Lay
import Derived.SevenTiedAt
import Derived.Stop.Joined
namespace Go.Proofs.YtjolkdjkhekbnaaGreatDoor.runsEach
open Go.ChangeShapes Go.WideShapes Go.ChangeAt Go.RowKit Go.Sv
theorem own:ownKnob Tryz.prog.godebug=none:=by kernel_rfl
theorem laidOut:laidOutB Tryz.prog=true:=by kernel_rfl
theorem ty0:tyIs Tryz.prog 9 22 (Ty.slice 68 Sv.T68)=true:=by kernel_rfl
theorem ty1:tyIs Tryz.prog 9 36 Sv.T33=true:=by kernel_rfl
set_option maxRecDepth 100000 in
theorem walk {W:World} (hL:laidMetH Tryz.prog yao W) {v0:Value} {y0:((Ty.slice 68 Sv.T68)).den} {v1:Value} {y1:(Sv.T33).den} (f0:((Ty.slice 68 Sv.T68)).wf y0) (f1:(Sv.T33).wf y1)
 (hrel:All2 (fun (p:Nat×PV) v=>RP (fun _=>False) Fr.none W p.2 v) (zjm 0 [.v (Ty.slice 68 Sv.T68) [],.v Sv.T33 []] (y0,y1)) [v0,v1]):Calls Tryz.prog 8 #[v0,v1] W fun e w'=>e= .returned (.bool true)∧Below W.heap.size W w':=by
 obtain ⟨k,hk⟩:=yvj (E:=Sv.E) (f:=8) (x:=(y0,y1)) (r:=true) (Sv.znd y0 y1 f0 f1)
 refine (qvp Sv.qvy (yvb hL) (k:=k) (f:=8) (x:=(y0,y1)) (r:=true) hk hrel).mono fun e w' ⟨v,he,hb,F,T,hv⟩=> ?_
 have:v= .bool true:=hv
 subst this
 exact ⟨he,hb⟩
set_option maxRecDepth 100000 in
theorem lifted (os:Os) (started:os.Started) (H:Type) (enc:TypeId×Value→H) :
 ReturnsInHanded {} Tryz.checked os 8 .any (fun w args=>(Rows.runsEachSpec.pre enc Tryz.prog Tryz.f8 Rows.runsEachRow.domain false w args∧laidMetH Tryz.prog yao w)∧sizedMet enc Tryz.prog Tryz.f8 (OpenSpec.ofChange Rows.runsEachSpec) false w args) (Rows.runsEachSpec.post enc Tryz.prog Tryz.f8 false true false false):=by
 refine returnsInHanded_of_change_and (C:=Tryz.checked) (X:=fun w _=>laidMetH Tryz.prog yao w) (fun _ _ _ hh h=>h.of_heap hh) own started (by kernel_rfl) Tryz.func8
  (ChangeSpec.witness_shaped (enc:=enc) (C:=Tryz.checked) (os:=os) (X:=fun w _=>laidMetH Tryz.prog yao w) false (World.laidAll Tryz.prog os yao) #[.slice none 0 0,.agg #[.slice none 0 0,.int .i64 0]] 8 (World.laidAll_os _ _ _)
   (World.shaped_of_ZipB (by kernel_rfl) (by kernel_rfl)) (by kernel_rfl) (by kernel_rfl) (by kernel_rfl)
   (by rw [MakeChecks.laidMetH_plain _ _ _ (by kernel_rfl)];exact laidMet_laidAll _ (by kernel_rfl) (by kernel_rfl))) ?_
 intro W base args ds gs before hval0 hW hcnd hsz0 hL _
 have hval:∀(j:Nat) t v,Tryz.f8.params[j]? =some t→args[j]? =some v→Value.okWide Tryz.prog W .any base t v:=hval0
 have hW':=hW
 obtain ⟨p,q,hA0,hV,rfl,hfz,hnd⟩:=hW
 have hA:DataW.TrodAll enc Tryz.prog W 0 (fun _=>true) true Tryz.f8.params.toList args.toList ds p:=hA0
 rw [Tryz.params8] at hA hval hsz0
 obtain ⟨v0,vs0,d0,ds0,p0,q0,hargs,rfl,rfl,h0,r0⟩:=trodAll_cons hA
 obtain ⟨v1,vs1,d1,ds1,p1,q1,rfl,rfl,rfl,h1,r1⟩:=trodAll_cons r0
 obtain ⟨rfl,rfl,rfl⟩:=trodAll_nil r1
 obtain rfl:args= #[v0,v1]:=by cases args;simp_all
 obtain ⟨rfl,rfl⟩:=trodVars_none hV
 have lt0:∀x∈p0,x.block<W.heap.size:=by obtain ⟨m,hm⟩:=h0;exact DataW.trod_lt m _ _ _ hm
 obtain ⟨y0,e0,f0⟩:=yhz (i:=0) ty0 (hval 0 22 v0 rfl rfl) h0 (zzj hsz0 0 _ _ rfl rfl)
 have lt1:∀x∈p1,x.block<W.heap.size:=by obtain ⟨m,hm⟩:=h1;exact DataW.trod_lt m _ _ _ hm
 obtain ⟨y1,e1,f1⟩:=yhz (i:=1) ty1 (hval 1 36 v1 rfl rfl) h1 (zzj hsz0 1 _ _ rfl rfl)
 clear hA0 hval0 hsz0
 refine (walk hL f0 f1 (.cons e0 (.cons e1 .nil))).mono fun e W' ⟨he,bel⟩=> ?_
 subst he
 exact ⟨_,rfl,_,_,_,[],_,[],hW',trodAll_mk1 (shut_bool Tryz.underlying4 _),(trodAll_cons_mk (Below.trod laidOut (by kernel_rfl) (of_decide_eq_true (by kernel_rfl)) h0 bel lt0) (trodAll_cons_mk (Below.trod laidOut (by kernel_rfl) (of_decide_eq_true (by kernel_rfl)) h1 bel lt1) trodAll_mk0)),rfl,bel.frame _,fun h=>by cases h⟩
theorem zdy {a b:Bool} (h1:a=true) (h2:b=true):(a&&b)=true:=by rw [h1,h2];rfl
theorem zrw:(Rows.runsEachRow.wf (OpenSpec.ofChange Rows.runsEachSpec))=true∧(laidOutB Tryz.pinned.checked.prog)=true∧(mapsRowed Tryz.pinned.checked.prog)=true∧(Tryz.f8.params.all (Tryz.pinned.checked.prog.readableRec ·))=true∧(namedTie Tryz.pinned.checked.prog Rows.runsEachRow.named Rows.runsEachSpec.vars)=true∧(Rows.runsEachRow.stops==[])=true∧(Tryz.pinned.checked.prog.stops==[])=true∧(Rows.runsEachRow.knobs==[])=true∧(Tryz.pinned.checked.prog.stopKnobs==[])=true:=⟨by kernel_rfl,by kernel_rfl,by kernel_rfl,by kernel_rfl,by kernel_rfl,by kernel_rfl,by kernel_rfl,by kernel_rfl,by kernel_rfl⟩
theorem qpc:(Rows.runsEachRow.inPlace==Tryz.pinned.checked.prog.inPlace 8)=true∧(Rows.runsEachRow.unfollowed==Tryz.pinned.checked.prog.unfollowed 8)=true∧(Rows.runsEachRow.recurses==Tryz.pinned.checked.prog.recurses 8)=true∧(Rows.runsEachRow.named==Tryz.pinned.checked.prog.varsNamed 8)=true:=⟨by kernel_rfl,by kernel_rfl,by kernel_rfl,by kernel_rfl⟩
theorem closed2:(Rows.runsEachRow.maps==(Tryz.f8.params.toList++Rows.runsEachSpec.plain.varTypes Tryz.pinned.checked.prog).any (Tryz.pinned.checked.prog.mapsRec ·))=true∧(Rows.runsEachRow.ifaces==(Tryz.f8.params.toList++Rows.runsEachSpec.plain.varTypes Tryz.pinned.checked.prog).any (Tryz.pinned.checked.prog.ifacesRec ·))=true∧(Rows.runsEachRow.mapsOut==Tryz.pinned.checked.prog.mapsAmong Tryz.f8.resultTypes.toList)=true∧(Rows.runsEachRow.loops==(Tryz.f8.params.toList++Rows.runsEachSpec.plain.varTypes Tryz.pinned.checked.prog).any (Tryz.pinned.checked.prog.loopsFrom ·))=true∧(Rows.runsEachRow.wideKeys==(Tryz.f8.params.toList++Rows.runsEachSpec.plain.varTypes Tryz.pinned.checked.prog++Tryz.f8.resultTypes.toList).any (Tryz.pinned.checked.prog.wideKeysFrom ·))=true∧(Rows.runsEachSpec.vars.all (Tryz.pinned.checked.prog.varReadable ·))=true∧(Tryz.f8.resultTypes.all (fun t=>Tryz.pinned.checked.prog.readableRec t&&decide (t<Tryz.pinned.checked.prog.types.size)))=true∧(Rows.runsEachRow.ifacesOut==Tryz.f8.resultTypes.toList.any (Tryz.pinned.checked.prog.ifacesRec ·))=true∧(Rows.runsEachRow.loopsOut==Tryz.f8.resultTypes.toList.any (Tryz.pinned.checked.prog.loopsFrom ·))=true:=⟨by kernel_rfl,by kernel_rfl,by kernel_rfl,by kernel_rfl,by kernel_rfl,by kernel_rfl,by kernel_rfl,by kernel_rfl,by kernel_rfl⟩
theorem zpg:(Rows.runsEachRow.plainKeys==Tryz.pinned.checked.prog.plainKeys)=true∧(Rows.runsEachRow.shortTexts.isNone)=true∧(Tryz.pinned.checked.prog.stopsHeard)=true∧(Tryz.pinned.checked.prog.mayEnter)=true∧(Rows.runsEachRow.lifted==Tryz.pinned.checked.prog.liftsFinal)=true∧(Tryz.pinned.checked.prog.make==some Rows.runsEachRow.make)=true∧(Rows.runsEachRow.kinds==(if Rows.runsEachRow.domain.isEmpty then [] else Tryz.f8.params.toList.map fun t=>match Tryz.pinned.checked.prog.underlying t with|some (.int k)=>some k|_=>none))=true∧(Rows.runsEachRow.pinned==Rows.runsEachRow.pinnedBy)=true∧(Rows.runsEachRow.veiled==(Tryz.f8.params.toList++Rows.runsEachSpec.plain.varTypes Tryz.pinned.checked.prog++Tryz.f8.resultTypes.toList).any (Tryz.pinned.checked.prog.veiledRec ·))=true∧(Rows.runsEachRow.veiledFits Tryz.pinned.checked.prog Tryz.f8.params.toList (Tryz.f8.params.toList++Rows.runsEachSpec.plain.varTypes Tryz.pinned.checked.prog++Tryz.f8.resultTypes.toList))=true:=⟨by kernel_rfl,by kernel_rfl,by kernel_rfl,by kernel_rfl,by kernel_rfl,by kernel_rfl,by kernel_rfl,by kernel_rfl,by kernel_rfl,by kernel_rfl⟩
theorem found:Tryz.pinned.checked.prog.funcNamed Rows.runsEachRow.func=some 8:=by kernel_rfl
set_option maxRecDepth 100000 in
theorem closed:joinedFacts Tryz.pinned.checked.prog 8 Tryz.f8 Rows.runsEachSpec Rows.runsEachRow=true:=by
 unfold joinedFacts
 exact (zdy (zdy (zdy (zdy (zdy (zdy (zdy (zdy (zdy (zdy (zdy (zdy (zdy (zdy (zdy (zdy (zdy (zdy (zdy (zdy (zdy (zdy (zdy (zdy (zdy (zdy (zdy (zdy (zdy (zdy (zdy zrw.1 zrw.2.1) zrw.2.2.1) zrw.2.2.2.1) zrw.2.2.2.2.1) zrw.2.2.2.2.2.1) zrw.2.2.2.2.2.2.1) zrw.2.2.2.2.2.2.2.1) zrw.2.2.2.2.2.2.2.2) qpc.1) qpc.2.1) qpc.2.2.1) qpc.2.2.2) closed2.1) closed2.2.1) closed2.2.2.1) closed2.2.2.2.1) closed2.2.2.2.2.1) closed2.2.2.2.2.2.1) closed2.2.2.2.2.2.2.1) closed2.2.2.2.2.2.2.2.1) closed2.2.2.2.2.2.2.2.2) zpg.1) zpg.2.1) zpg.2.2.1) zpg.2.2.2.1) zpg.2.2.2.2.1) zpg.2.2.2.2.2.1) zpg.2.2.2.2.2.2.1) zpg.2.2.2.2.2.2.2.1) zpg.2.2.2.2.2.2.2.2.1) zpg.2.2.2.2.2.2.2.2.2)
theorem over:Rows.runsEachRow.holds Tryz.pinned (OpenSpec.ofChange Rows.runsEachSpec) :=
 OpenClaim.holds_of_wide 8 Tryz.f8 rfl rfl rfl rfl rfl rfl rfl ⟨rfl,rfl,rfl,rfl,rfl⟩ rfl rfl rfl rfl rfl found Tryz.func8 closed
  (of_decide_eq_true (by kernel_rfl)) (by unfold Func.isWrapper;first|(rw [if_pos (by decide +kernel)];kernel_rfl)|(rw [if_neg (by decide +kernel)];exact ⟨rfl,rfl⟩))
  (fun os started H enc _=>lifted os started H enc)
theorem yvp:Rows.runsEachRow.wfByText (OpenSpec.ofChange Rows.runsEachSpec)=true:=by kernel_rfl
theorem mainIs:Tryz.pinned.checked.prog.mainIs=some ((true, "cbf629645021206e261b4fb24d008dd92a3857b01fa74c8d2989db1268d03026").1,(true, "cbf629645021206e261b4fb24d008dd92a3857b01fa74c8d2989db1268d03026").2.toList):=by kernel_rfl
theorem looks:false=Tryz.pinned.checked.prog.looks []:=by kernel_rfl
theorem ysl:([22,36].all fun u=> !Tryz.prog.wantsStandIn u)=true:=by kernel_rfl
theorem goes:false=Rows.runsEachRow.goesBy Tryz.pinned.checked.prog:=by kernel_rfl
theorem proved:Rows.RunsEachCardSaid :=
 Claim7.holds_tied_plain_at .later [] [.data,.data,.data,.data,.widerDeep,.pinned] true (true, "cbf629645021206e261b4fb24d008dd92a3857b01fa74c8d2989db1268d03026") false over (fun _ h=>by cases h) yvp (fun _ h=>by cases h) runsEach_row_tie rfl ⟨rfl,rfl⟩ mainIs rfl
  (fun f fn hf hfn=>by
   obtain rfl:f=8:=Option.some.inj (found.symm.trans hf) |>.symm
   obtain rfl:fn=Tryz.f8:=(Option.some.inj (Tryz.func8.symm.trans hfn)).symm
   exact ⟨looks,fun j t ht=>by
    rw [Tryz.params8] at ht
    have hm:t∈[22,36]:=by simpa using Array.mem_of_getElem? ht
    have hall:([22,36].all fun u=> !Tryz.prog.wantsStandIn u)=true:=ysl
    exact (show Tryz.prog.wantsStandIn t=false by simpa using List.all_eq_true.1 hall t hm)⟩)
  goes
#print axioms proved
end Go.Proofs.YtjolkdjkhekbnaaGreatDoor.runsEach
namespace Go.Proofs.YtjolkdjkhekbnaaGreatDoor
theorem runsEach_holds:Rows.RunsEachCardSaid:=runsEach.proved
end Go.Proofs.YtjolkdjkhekbnaaGreatDoor
