/- The row, and the tied card, of the law RunsParts: out of what its function tells (zrh) and the evaluator. Written by a program (law3.py). -/
import Derived.Test.YtjolkdjkhekbnaaGreatDoorSvJ
import Derived.Test.YtjolkdjkhekbnaaGreatDoorCards
import Derived.Test.YtjolkdjkhekbnaaGreatDoorTie
import Derived.ShutString
import Derived.Lay
set_option linter.unusedVariables false
set_option linter.unusedSimpArgs false
namespace Go.Proofs.YtjolkdjkhekbnaaGreatDoor.runsParts
open Go.ChangeShapes Go.WideShapes Go.ChangeAt Go.RowKit Go.Sv
theorem own:ownKnob Tryz.prog.godebug=none:=by kernel_rfl
theorem laidOut:laidOutB Tryz.prog=true:=by kernel_rfl
theorem ty0:tyIs Tryz.prog 9 22 (Ty.slice 68 Sv.T68)=true:=by kernel_rfl
theorem ty1:tyIs Tryz.prog 9 23 (Ty.slice 3 (Ty.int .i64))=true:=by kernel_rfl
theorem ty2:tyIs Tryz.prog 9 23 (Ty.slice 3 (Ty.int .i64))=true:=by kernel_rfl
set_option maxRecDepth 100000 in
theorem walk {W:World} (hL:laidMetH Tryz.prog zvw W) {v0:Value} {y0:((Ty.slice 68 Sv.T68)).den} {v1:Value} {y1:((Ty.slice 3 (Ty.int .i64))).den} {v2:Value} {y2:((Ty.slice 3 (Ty.int .i64))).den} (f0:((Ty.slice 68 Sv.T68)).wf y0) (f1:((Ty.slice 3 (Ty.int .i64))).wf y1) (f2:((Ty.slice 3 (Ty.int .i64))).wf y2)
 (hrel:All2 (fun (p:Nat×PV) v=>RP (fun _=>False) Fr.none W p.2 v) (zlu 0 [.v (Ty.slice 68 Sv.T68) [],.v (Ty.slice 3 (Ty.int .i64)) [],.v (Ty.slice 3 (Ty.int .i64)) []] (y0,y1,y2)) [v0,v1,v2]):Calls Tryz.prog 7 #[v0,v1,v2] W fun e w'=>e= .returned (.bool true)∧Below W.heap.size W w':=by
 obtain ⟨k,hk⟩:=yog (E:=Sv.E) (f:=7) (x:=(y0,y1,y2)) (r:=true) (Sv.zrh y0 y1 y2 f0 f1 f2);refine (zzk Sv.qwp (ynz hL) (k:=k) (f:=7) (x:=(y0,y1,y2)) (r:=true) hk hrel).mono fun e w' ⟨v,he,hb,F,T,hv⟩=> ?_
 have:v= .bool true:=hv;subst this;exact ⟨he,hb⟩
set_option maxRecDepth 100000 in
theorem lifted (os:Os) (started:os.Started) (H:Type) (enc:TypeId×Value→H):
 ReturnsInHanded {} Tryz.checked os 7 .any (fun w args=>(Rows.runsPartsSpec.pre enc Tryz.prog Tryz.f7 Rows.runsPartsRow.domain false w args∧laidMetH Tryz.prog zvw w)∧sizedMet enc Tryz.prog Tryz.f7 (OpenSpec.ofChange Rows.runsPartsSpec) false w args) (Rows.runsPartsSpec.post enc Tryz.prog Tryz.f7 false true false false):=by
 refine returnsInHanded_of_change_and (C:=Tryz.checked) (X:=fun w _=>laidMetH Tryz.prog zvw w) (fun _ _ _ hh h=>h.of_heap hh) own started (by kernel_rfl) Tryz.func7
  (ChangeSpec.witness_shaped (enc:=enc) (C:=Tryz.checked) (os:=os) (X:=fun w _=>laidMetH Tryz.prog zvw w) false (World.laidAll Tryz.prog os zvw) #[.slice none 0 0,.slice none 0 0,.slice none 0 0] 8 (World.laidAll_os _ _ _)
   (World.shaped_of_ZipB (by kernel_rfl) (by kernel_rfl)) (by kernel_rfl) (by kernel_rfl) (by kernel_rfl)
   (by rw [MakeChecks.laidMetH_plain _ _ _ (by kernel_rfl)];exact laidMet_laidAll _ (by kernel_rfl) (by kernel_rfl))) ?_
 intro W base args ds gs before hval0 hW hcnd hsz0 hL _;have hval:∀(j:Nat) t v,Tryz.f7.params[j]? =some t→args[j]? =some v→Value.okWide Tryz.prog W .any base t v:=hval0;have hW':=hW;obtain ⟨p,q,hA0,hV,rfl,hfz,hnd⟩:=hW;have hA:DataW.TrodAll enc Tryz.prog W 0 (fun _=>true) true Tryz.f7.params.toList args.toList ds p:=hA0;rw [Tryz.params7] at hA hval hsz0;obtain ⟨v0,vs0,d0,ds0,p0,q0,hargs,rfl,rfl,h0,r0⟩:=trodAll_cons hA;obtain ⟨v1,vs1,d1,ds1,p1,q1,rfl,rfl,rfl,h1,r1⟩:=trodAll_cons r0;obtain ⟨v2,vs2,d2,ds2,p2,q2,rfl,rfl,rfl,h2,r2⟩:=trodAll_cons r1;obtain ⟨rfl,rfl,rfl⟩:=trodAll_nil r2;obtain rfl:args= #[v0,v1,v2]:=by cases args;simp_all
 obtain ⟨rfl,rfl⟩:=trodVars_none hV;have lt0:∀x∈p0,x.block<W.heap.size:=by obtain ⟨m,hm⟩:=h0;exact DataW.trod_lt m _ _ _ hm
 obtain ⟨y0,e0,f0⟩:=qdd (i:=0) ty0 (hval 0 22 v0 rfl rfl) h0 (zmk hsz0 0 _ _ rfl rfl);have lt1:∀x∈p1,x.block<W.heap.size:=by obtain ⟨m,hm⟩:=h1;exact DataW.trod_lt m _ _ _ hm
 obtain ⟨y1,e1,f1⟩:=qdd (i:=1) ty1 (hval 1 23 v1 rfl rfl) h1 (zmk hsz0 1 _ _ rfl rfl);have lt2:∀x∈p2,x.block<W.heap.size:=by obtain ⟨m,hm⟩:=h2;exact DataW.trod_lt m _ _ _ hm
 obtain ⟨y2,e2,f2⟩:=qdd (i:=2) ty2 (hval 2 23 v2 rfl rfl) h2 (zmk hsz0 2 _ _ rfl rfl);clear hA0 hval0 hsz0;refine (walk hL f0 f1 f2 (.cons e0 (.cons e1 (.cons e2 .nil)))).mono fun e W' ⟨he,bel⟩=> ?_
 subst he;exact ⟨_,rfl,_,_,_,[],_,[],hW',trodAll_mk1 (shut_bool Tryz.underlying4 _),(trodAll_cons_mk (Below.trod laidOut (by kernel_rfl) (of_decide_eq_true (by kernel_rfl)) h0 bel lt0) (trodAll_cons_mk (Below.trod laidOut (by kernel_rfl) (of_decide_eq_true (by kernel_rfl)) h1 bel lt1) (trodAll_cons_mk (Below.trod laidOut (by kernel_rfl) (of_decide_eq_true (by kernel_rfl)) h2 bel lt2) trodAll_mk0))),rfl,bel.frame _,fun h=>by cases h⟩
theorem zac {a b:Bool} (h1:a=true) (h2:b=true):(a&&b)=true:=by rw [h1,h2];rfl
theorem zby:(Rows.runsPartsRow.wf (OpenSpec.ofChange Rows.runsPartsSpec))=true∧(laidOutB Tryz.pinned.checked.prog)=true∧(mapsRowed Tryz.pinned.checked.prog)=true∧(Tryz.f7.params.all (Tryz.pinned.checked.prog.readableRec ·))=true∧(namedTie Tryz.pinned.checked.prog Rows.runsPartsRow.named Rows.runsPartsSpec.vars)=true∧(Rows.runsPartsRow.stops==[])=true∧(Tryz.pinned.checked.prog.stops==[])=true∧(Rows.runsPartsRow.knobs==[])=true∧(Tryz.pinned.checked.prog.stopKnobs==[])=true:=⟨by kernel_rfl,by kernel_rfl,by kernel_rfl,by kernel_rfl,by kernel_rfl,by kernel_rfl,by kernel_rfl,by kernel_rfl,by kernel_rfl⟩
theorem zje:(Rows.runsPartsRow.inPlace==Tryz.pinned.checked.prog.inPlace 7)=true∧(Rows.runsPartsRow.unfollowed==Tryz.pinned.checked.prog.unfollowed 7)=true∧(Rows.runsPartsRow.recurses==Tryz.pinned.checked.prog.recurses 7)=true∧(Rows.runsPartsRow.named==Tryz.pinned.checked.prog.varsNamed 7)=true:=⟨by kernel_rfl,by kernel_rfl,by kernel_rfl,by kernel_rfl⟩
theorem closed2:(Rows.runsPartsRow.maps==(Tryz.f7.params.toList++Rows.runsPartsSpec.plain.varTypes Tryz.pinned.checked.prog).any (Tryz.pinned.checked.prog.mapsRec ·))=true∧(Rows.runsPartsRow.ifaces==(Tryz.f7.params.toList++Rows.runsPartsSpec.plain.varTypes Tryz.pinned.checked.prog).any (Tryz.pinned.checked.prog.ifacesRec ·))=true∧(Rows.runsPartsRow.mapsOut==Tryz.pinned.checked.prog.mapsAmong Tryz.f7.resultTypes.toList)=true∧(Rows.runsPartsRow.loops==(Tryz.f7.params.toList++Rows.runsPartsSpec.plain.varTypes Tryz.pinned.checked.prog).any (Tryz.pinned.checked.prog.loopsFrom ·))=true∧(Rows.runsPartsRow.wideKeys==(Tryz.f7.params.toList++Rows.runsPartsSpec.plain.varTypes Tryz.pinned.checked.prog++Tryz.f7.resultTypes.toList).any (Tryz.pinned.checked.prog.wideKeysFrom ·))=true∧(Rows.runsPartsSpec.vars.all (Tryz.pinned.checked.prog.varReadable ·))=true∧(Tryz.f7.resultTypes.all (fun t=>Tryz.pinned.checked.prog.readableRec t&&decide (t<Tryz.pinned.checked.prog.types.size)))=true∧(Rows.runsPartsRow.ifacesOut==Tryz.f7.resultTypes.toList.any (Tryz.pinned.checked.prog.ifacesRec ·))=true∧(Rows.runsPartsRow.loopsOut==Tryz.f7.resultTypes.toList.any (Tryz.pinned.checked.prog.loopsFrom ·))=true:=⟨by kernel_rfl,by kernel_rfl,by kernel_rfl,by kernel_rfl,by kernel_rfl,by kernel_rfl,by kernel_rfl,by kernel_rfl,by kernel_rfl⟩
theorem zbl:(Rows.runsPartsRow.plainKeys==Tryz.pinned.checked.prog.plainKeys)=true∧(Rows.runsPartsRow.shortTexts.isNone)=true∧(Tryz.pinned.checked.prog.stopsHeard)=true∧(Tryz.pinned.checked.prog.mayEnter)=true∧(Rows.runsPartsRow.lifted==Tryz.pinned.checked.prog.liftsFinal)=true∧(Tryz.pinned.checked.prog.make==some Rows.runsPartsRow.make)=true∧(Rows.runsPartsRow.kinds==(if Rows.runsPartsRow.domain.isEmpty then [] else Tryz.f7.params.toList.map fun t=>match Tryz.pinned.checked.prog.underlying t with|some (.int k)=>some k|_=>none))=true∧(Rows.runsPartsRow.pinned==Rows.runsPartsRow.pinnedBy)=true∧(Rows.runsPartsRow.veiled==(Tryz.f7.params.toList++Rows.runsPartsSpec.plain.varTypes Tryz.pinned.checked.prog++Tryz.f7.resultTypes.toList).any (Tryz.pinned.checked.prog.veiledRec ·))=true∧(Rows.runsPartsRow.veiledFits Tryz.pinned.checked.prog Tryz.f7.params.toList (Tryz.f7.params.toList++Rows.runsPartsSpec.plain.varTypes Tryz.pinned.checked.prog++Tryz.f7.resultTypes.toList))=true:=⟨by kernel_rfl,by kernel_rfl,by kernel_rfl,by kernel_rfl,by kernel_rfl,by kernel_rfl,by kernel_rfl,by kernel_rfl,by kernel_rfl,by kernel_rfl⟩
theorem found:Tryz.pinned.checked.prog.funcNamed Rows.runsPartsRow.func=some 7:=by kernel_rfl
set_option maxRecDepth 100000 in
theorem closed:joinedFacts Tryz.pinned.checked.prog 7 Tryz.f7 Rows.runsPartsSpec Rows.runsPartsRow=true:=by unfold joinedFacts;exact (zac (zac (zac (zac (zac (zac (zac (zac (zac (zac (zac (zac (zac (zac (zac (zac (zac (zac (zac (zac (zac (zac (zac (zac (zac (zac (zac (zac (zac (zac (zac zby.1 zby.2.1) zby.2.2.1) zby.2.2.2.1) zby.2.2.2.2.1) zby.2.2.2.2.2.1) zby.2.2.2.2.2.2.1) zby.2.2.2.2.2.2.2.1) zby.2.2.2.2.2.2.2.2) zje.1) zje.2.1) zje.2.2.1) zje.2.2.2) closed2.1) closed2.2.1) closed2.2.2.1) closed2.2.2.2.1) closed2.2.2.2.2.1) closed2.2.2.2.2.2.1) closed2.2.2.2.2.2.2.1) closed2.2.2.2.2.2.2.2.1) closed2.2.2.2.2.2.2.2.2) zbl.1) zbl.2.1) zbl.2.2.1) zbl.2.2.2.1) zbl.2.2.2.2.1) zbl.2.2.2.2.2.1) zbl.2.2.2.2.2.2.1) zbl.2.2.2.2.2.2.2.1) zbl.2.2.2.2.2.2.2.2.1) zbl.2.2.2.2.2.2.2.2.2)
theorem over:Rows.runsPartsRow.holds Tryz.pinned (OpenSpec.ofChange Rows.runsPartsSpec):=
 OpenClaim.holds_of_wide 7 Tryz.f7 rfl rfl rfl rfl rfl rfl rfl ⟨rfl,rfl,rfl,rfl,rfl⟩ rfl rfl rfl rfl rfl found Tryz.func7 closed
  (of_decide_eq_true (by kernel_rfl)) (by unfold Func.isWrapper;first|(rw [if_pos (by decide +kernel)];kernel_rfl)|(rw [if_neg (by decide +kernel)];exact ⟨rfl,rfl⟩))
  (fun os started H enc _=>lifted os started H enc)
theorem qug:Rows.runsPartsRow.wfByText (OpenSpec.ofChange Rows.runsPartsSpec)=true:=by kernel_rfl
theorem mainIs:Tryz.pinned.checked.prog.mainIs=some ((true, "cbf629645021206e261b4fb24d008dd92a3857b01fa74c8d2989db1268d03026").1,(true, "cbf629645021206e261b4fb24d008dd92a3857b01fa74c8d2989db1268d03026").2.toList):=by kernel_rfl
theorem looks:false=Tryz.pinned.checked.prog.looks []:=by kernel_rfl
theorem qgr:([22,23,23].all fun u=> !Tryz.prog.wantsStandIn u)=true:=by kernel_rfl
theorem goes:false=Rows.runsPartsRow.goesBy Tryz.pinned.checked.prog:=by kernel_rfl
theorem proved:Rows.RunsPartsCardSaid:=
 Claim7.holds_tied_plain_at .later [] [.data,.data,.data,.data,.widerDeep,.pinned] true (true, "cbf629645021206e261b4fb24d008dd92a3857b01fa74c8d2989db1268d03026") false over (fun _ h=>by cases h) qug (fun _ h=>by cases h) runsParts_row_tie rfl ⟨rfl,rfl⟩ mainIs rfl
  (fun f fn hf hfn=>by
   obtain rfl:f=7:=Option.some.inj (found.symm.trans hf) |>.symm
   obtain rfl:fn=Tryz.f7:=(Option.some.inj (Tryz.func7.symm.trans hfn)).symm;exact ⟨looks,fun j t ht=>by
    rw [Tryz.params7] at ht;have hm:t∈[22,23,23]:=by simpa using Array.mem_of_getElem? ht
    have hall:([22,23,23].all fun u=> !Tryz.prog.wantsStandIn u)=true:=qgr;exact (show Tryz.prog.wantsStandIn t=false by simpa using List.all_eq_true.1 hall t hm)⟩)
  goes
#print axioms proved
end Go.Proofs.YtjolkdjkhekbnaaGreatDoor.runsParts
namespace Go.Proofs.YtjolkdjkhekbnaaGreatDoor
theorem runsParts_holds:Rows.RunsPartsCardSaid:=runsParts.proved
end Go.Proofs.YtjolkdjkhekbnaaGreatDoor
