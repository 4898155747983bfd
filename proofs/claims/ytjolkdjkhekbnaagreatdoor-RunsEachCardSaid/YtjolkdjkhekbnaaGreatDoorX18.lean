/- step.Put: its walk. -/
import Derived.Test.YtjolkdjkhekbnaaGreatDoorX17
import Derived.Deep.RegionHeld3
namespace Go.Proofs.YtjolkdjkhekbnaaGreatDoor.Sv
open Go Go.Sv Go.Proofs Go.Rd Go.RowKit
set_option maxRecDepth 100000
attribute [local go_sem] Oper.semAt_some
set_option maxHeartbeats 3200000 in
theorem yab [Dfr] [zcx] (w:World) (F:Nat→Prop) (l x:List Nd) (s0 s2:Option Addr) (c0 c2 k n:Nat) (hF:∀b,F b→b<w.heap.size) (hg:zcr E F w)
 (hl:Cl F w (.slice 68 NdY) l [.slice s0 l.length c0]) (hx:Cl F w (.slice 68 NdY) x [.slice s2 x.length c2]) (hk:k<l.length) (hn:zja (l.drop k)=some (n:Int)) (hn1:0<n) (hn2:k+n≤l.length) (hll:l.length≤1000000) (hxl:x.length≤1000000) :
 Calls Tryz.prog 72 #[.slice s0 l.length c0,.int .i64 (k:Int),.slice s2 x.length c2] w (qto F w (l.take k++x++l.drop (k+n))):=by
 have h0:(0:Int)≤(k:Int):=by omega
 have h1:(k:Int)<(l.length:Int):=by omega
 have hs:(Tryz.prog.info? 68).map (·.size)=some NdY.sz:=by kernel_rfl
 obtain ⟨vA,hA,clA⟩:=qow hl (lo:=some (.int .i64 (k:Int))) (hi:=none) (l:=(k:Int)) (h:=(l.length:Int)) (.inr ⟨_,rfl⟩) (.inl ⟨rfl,rfl⟩) h0 (by omega) (Int.le_refl _)
 obtain ⟨vB,hB,clB⟩:=qow hl (lo:=none) (hi:=some (.int .i64 (k:Int))) (l:=0) (h:=(k:Int)) (.inl ⟨rfl,rfl⟩) (.inr ⟨_,rfl⟩) (Int.le_refl _) h0 (by omega)
 obtain ⟨vC,hC,clC⟩:=qow hl (lo:=some (.int .i64 ((k:Int)+(n:Int)))) (hi:=none) (l:=(k:Int)+(n:Int)) (h:=(l.length:Int)) (.inr ⟨_,rfl⟩) (.inl ⟨rfl,rfl⟩) (by omega) (by omega) (Int.le_refl _)
 have eA:cut l (k:Int) (l.length:Int)=l.drop k:=by rw [ztv];simp
 have eB:cut l 0 (k:Int)=l.take k:=by rw [show (0:Int)=((0:Nat):Int) from rfl,ztv];simp
 have eC:cut l ((k:Int)+(n:Int)) (l.length:Int)=l.drop (k+n):=by rw [←Int.natCast_add,ztv];simp
 rw [eA] at clA
 rw [eB] at clB
 rw [eC] at clC
 obtain ⟨Z,hZ,hmk⟩:=qdu (l.length-n+x.length) (by omega)
 have e2:((l.length-n+x.length:Nat):Int)=((l.length-n:Nat):Int)+(x.length:Int):=by omega
 rw [e2] at hmk
 obtain ⟨nB,EB,hcB⟩:=zuy (P:=Tryz.prog) (dT:=rowT) (sT:=rowT) (ty:=3) Tryz.underlying22 hs clB
 obtain ⟨nX,EX,hcX⟩:=zuy (P:=Tryz.prog) (dT:=rowT) (sT:=rowT) (ty:=3) Tryz.underlying22 hs hx
 obtain ⟨nC,EC,hcC⟩:=zuy (P:=Tryz.prog) (dT:=rowT) (sT:=rowT) (ty:=3) Tryz.underlying22 hs clC
 have w1:IntKind.i64.wrap ((l.length:Int)-(n:Int))=((l.length-n:Nat):Int):=by rw [show ((l.length:Int)-(n:Int))=((l.length-n:Nat):Int) by omega];exact zxp (by omega)
 have w2:IntKind.i64.wrap (((l.length-n:Nat):Int)+(x.length:Int))=((l.length-n:Nat):Int)+(x.length:Int):=by rw [←e2];exact zxp (by omega)
 have w3:IntKind.i64.wrap ((k:Int)+(x.length:Int))=(k:Int)+(x.length:Int):=by rw [←Int.natCast_add];exact zxp (by omega)
 have w4:IntKind.i64.wrap ((k:Int)+(n:Int))=(k:Int)+(n:Int):=by rw [←Int.natCast_add];exact zxp (by omega)
 have hnz:¬(n:Int)=0:=by omega
 go_enter Tryz.func72,Tryz.ntmps72
 go_wp2_with (go_at_fn 128)
 refine (qkp hn hF hg clA).mono ?_
 rintro e W ⟨rfl,hkept⟩
 obtain ⟨vO,hvO,hmO⟩:∃vO,Value.slice (some ⟨W.heap.size,0,none⟩) (l.length-n+x.length) (l.length-n+x.length)=vO∧
  (Instr.makeSlice rowT (.int .i64 (((l.length-n:Nat):Int)+(x.length:Int))) (.int .i64 (((l.length-n:Nat):Int)+(x.length:Int)))).run Tryz.prog W= .ok vO (W.alloc (.cells Z 68)):=⟨_,rfl,hmk W⟩
 clear hmk
 obtain ⟨d1,hd1,hD1⟩:∃d1,Value.slice (if l.length-n+x.length=k then some ⟨W.heap.size,0,none⟩ else some ⟨W.heap.size,k*3,none⟩) (l.length-n+x.length-k) (l.length-n+x.length-k)=d1∧
  ∀W',(Instr.sliceAt rowT vO (some (.int .i64 (k:Int))) none none).run Tryz.prog W'= .ok d1 W':=⟨_,rfl,fun W'=>by rw [←hvO];exact yhg _ _ _ (by omega) W'⟩
 obtain ⟨d2,hd2,hD2⟩:∃d2,Value.slice (if l.length-n+x.length=k+x.length then some ⟨W.heap.size,0,none⟩ else some ⟨W.heap.size,(k+x.length)*3,none⟩) (l.length-n+x.length-(k+x.length)) (l.length-n+x.length-(k+x.length))=d2∧
  ∀W',(Instr.sliceAt rowT vO (some (.int .i64 ((k:Int)+(x.length:Int)))) none none).run Tryz.prog W'= .ok d2 W':=⟨_,rfl,fun W'=>by rw [←hvO,←Int.natCast_add];exact yhg _ _ _ (by omega) W'⟩
 have lB:nB.length=k*3:=by rw [EB.len,List.length_take,Nat.min_eq_left (by omega)];rfl
 have lX:nX.length=x.length*3:=EX.len
 have lC:nC.length=(l.length-(k+n))*3:=by rw [EC.len,List.length_drop];rfl
 have tB:(l.take k).length=k:=by rw [List.length_take,Nat.min_eq_left (by omega)]
 have tC:(l.drop (k+n)).length=l.length-(k+n):=List.length_drop
 go_wp2
 generalize hW1:W.alloc (.cells Z 68)=W1
 have k1:Kept (fun _=>False) w W1:=by rw [←hW1];exact hkept.alloc _
 have g1:W1.heap[W.heap.size]? =some (.cells Z 68 (0,0)):=by rw [←hW1];simp [-World.alloc_eq,World.alloc]
 have hC1:(Builtin.copy_ #[rowT,rowT] 3 #[vO,vB]).run Tryz.prog W1= .ok (goInt (l.take k).length) (W1.setRow W.heap.size (Z.toList.take 0++nB++Z.toList.drop (0+nB.length)).toArray):=by
  rw [←hvO]
  exact hcB W1 (fun b hb=>k1.block b hb (fun h=>h)) W.heap.size 0 _ _ _ Z g1 (by rw [tB];omega) (by rw [tB,hZ];show 0+k*3≤_;omega)
 rw [hC1]
 generalize hW2:W1.setRow W.heap.size _=W2
 have k2:Kept (fun _=>False) w W2:=by rw [←hW2];exact k1.setRow (.inl hkept.size) _
 have g2:W2.heap[W.heap.size]? =some (.cells (Z.toList.take 0++nB++Z.toList.drop (0+nB.length)).toArray 68 (0,0)):=by rw [←hW2];exact setRow_heap W1 W.heap.size Z _ 68 _ g1
 go_wp2
 generalize hY1:(Z.toList.take 0++nB++Z.toList.drop (0+nB.length)).toArray=Y1 at *
 have z1:Y1.size=(l.length-n+x.length)*3:=by rw [←hY1];simp [lB];omega
 have hC2:(Builtin.copy_ #[rowT,rowT] 3 #[d1,.slice s2 x.length c2]).run Tryz.prog W2= .ok (goInt x.length) (W2.setRow W.heap.size (Y1.toList.take (k*3)++nX++Y1.toList.drop (k*3+nX.length)).toArray):=by
  rw [←hd1]
  exact qte g2 z1 lX (by omega) (by omega) fun o dLen dCap tid cur hc hle hfit=>hcX W2 (fun b hb=>k2.block b hb (fun h=>h)) W.heap.size o dLen dCap tid cur hc hle hfit
 rw [hC2]
 generalize hW3:W2.setRow W.heap.size _=W3
 have k3:Kept (fun _=>False) w W3:=by rw [←hW3];exact k2.setRow (.inl hkept.size) _
 have g3:W3.heap[W.heap.size]? =some (.cells (Y1.toList.take (k*3)++nX++Y1.toList.drop (k*3+nX.length)).toArray 68 (0,0)):=by rw [←hW3];exact setRow_heap W2 W.heap.size Y1 _ 68 _ g2
 generalize hY2:(Y1.toList.take (k*3)++nX++Y1.toList.drop (k*3+nX.length)).toArray=Y2 at *
 have z2:Y2.size=(l.length-n+x.length)*3:=by rw [←hY2];simp [lX,z1];omega
 have hC3:∀W':World,W'.heap=W3.heap→(Builtin.copy_ #[rowT,rowT] 3 #[d2,vC]).run Tryz.prog W'= .ok (goInt (l.drop (k+n)).length) (W'.setRow W.heap.size (Y2.toList.take ((k+x.length)*3)++nC++Y2.toList.drop ((k+x.length)*3+nC.length)).toArray):=fun W' hW'=>by
  rw [←hd2]
  exact qte (by rw [hW'];exact g3) z2 EC.len (by omega) (by rw [tC];omega) fun o dLen dCap tid cur hc hle hfit=>hcC W' (fun b hb=>by rw [hW'];exact k3.block b hb (fun h=>h)) W.heap.size o dLen dCap tid cur hc hle hfit
 have hC4:=hC3 W3.drew rfl
 clear hC3
 go_wp2
 go_region_held3 (fun w'=>True) (trivial) (fail)
 go_wp2
 go_ret
 have hlen:(l.take k++x++l.drop (k+n)).length=l.length-n+x.length:=by rw [List.length_append,List.length_append,tB,tC];omega
 have k4:Kept (fun _=>False) w (W3.drew.setRow W.heap.size (Y2.toList.take ((k+x.length)*3)++nC++Y2.toList.drop ((k+x.length)*3+nC.length)).toArray):=k3.drew.setRow (.inl hkept.size) _
 refine ⟨W.heap.size,(Y2.toList.take ((k+x.length)*3)++nC++Y2.toList.drop ((k+x.length)*3+nC.length)).toArray,?_,?_,hkept.size,?_,?_⟩
 ·rw [hlen,hvO];rfl
 ·simpa [lC] using k4
 ·have:=setRow_heap W3.drew W.heap.size Y2 (Y2.toList.take ((k+x.length)*3)++nC++Y2.toList.drop ((k+x.length)*3+nC.length)).toArray 68 (0,0) g3
  simpa [lC] using this
 ·have h3:=three Z.toList nB nX nC (by rw [Array.length_toList,hZ,lB,lX,lC];omega)
  have hY:(Y2.toList.take ((k+x.length)*3)++nC++Y2.toList.drop ((k+x.length)*3+nC.length)).toArray.toList=nB++nX++nC:=by
   rw [←h3,←hY2,←hY1]
   simp only [List.toList_toArray]
   rw [show (k+x.length)*3=nB.length+nX.length by rw [lB,lX];omega,show k*3=nB.length by rw [lB]]
  rw [hY]
  exact (EB.append EX).append EC
set_option maxHeartbeats 3200000 in
theorem quv [Dfr] [zcx] (w:World) (F:Nat→Prop) (l:List Nd) (s0 s2:Option Addr) (c0 c2 xn:Nat) (k:Int)
 (hl:Cl F w (.slice 68 NdY) l [.slice s0 l.length c0]) (hk:k<0) (hll:l.length≤1000000) :
 Calls Tryz.prog 72 #[.slice s0 l.length c0,.int .i64 k,.slice s2 xn c2] w (qto F w l):=by
 have h0:¬(0:Int)≤k:=by omega
 have hs:(Tryz.prog.info? 68).map (·.size)=some NdY.sz:=by kernel_rfl
 obtain ⟨Z,hZ,hmk⟩:=qdu l.length (by omega)
 obtain ⟨nB,EB,hcB⟩:=zuy (P:=Tryz.prog) (dT:=rowT) (sT:=rowT) (ty:=3) Tryz.underlying22 hs hl
 have lB:nB.length=l.length*3:=EB.len
 have hkept:=Kept.refl (fun _=>False) w
 obtain ⟨vO,hvO,hmO⟩:∃vO,Value.slice (some ⟨w.heap.size,0,none⟩) l.length l.length=vO∧
  (Instr.makeSlice rowT (.int .i64 (l.length:Int)) (.int .i64 (l.length:Int))).run Tryz.prog w= .ok vO (w.alloc (.cells Z 68)):=⟨_,rfl,hmk w⟩
 clear hmk
 go_enter Tryz.func72,Tryz.ntmps72
 go_wp2
 generalize hW1:w.alloc (.cells Z 68)=W1
 have k1:Kept (fun _=>False) w W1:=by rw [←hW1];exact hkept.alloc _
 have g1:W1.heap[w.heap.size]? =some (.cells Z 68 (0,0)):=by rw [←hW1];simp [-World.alloc_eq,World.alloc]
 have hY:(Z.toList.take 0++nB++Z.toList.drop (0+nB.length)).toArray=nB.toArray:=by
  rw [List.drop_eq_nil_of_le (by rw [Array.length_toList,hZ,lB];omega)]
  simp
 have hC1:(Builtin.copy_ #[rowT,rowT] 3 #[vO,.slice s0 l.length c0]).run Tryz.prog W1= .ok (goInt l.length) (W1.setRow w.heap.size nB.toArray):=by
  have h:=hcB W1 (fun b hb=>k1.block b hb (fun h=>h)) w.heap.size 0 l.length l.length _ Z g1 (Nat.le_refl _) (by rw [hZ];show 0+l.length*3≤_;omega)
  rw [hY] at h
  rw [←hvO]
  exact h
 rw [hC1]
 go_wp2
 go_ret
 refine ⟨w.heap.size,nB.toArray,by rw [hvO];rfl,k1.setRow (.inl hkept.size) _,hkept.size,setRow_heap W1 w.heap.size Z _ 68 _ g1,by rw [List.toList_toArray];exact EB⟩
set_option maxHeartbeats 3200000 in
theorem quw [Dfr] [zcx] (w:World) (F:Nat→Prop) (l:List Nd) (s0 s2:Option Addr) (c0 c2 xn:Nat) (k:Int)
 (hl:Cl F w (.slice 68 NdY) l [.slice s0 l.length c0]) (hk:(l.length:Int)≤k) (hll:l.length≤1000000) :
 Calls Tryz.prog 72 #[.slice s0 l.length c0,.int .i64 k,.slice s2 xn c2] w (qto F w l):=by
 have h0:(0:Int)≤k:=by omega
 have h0b:¬k<0:=by omega
 have h1:¬k<(l.length:Int):=by omega
 have hs:(Tryz.prog.info? 68).map (·.size)=some NdY.sz:=by kernel_rfl
 obtain ⟨Z,hZ,hmk⟩:=qdu l.length (by omega)
 obtain ⟨nB,EB,hcB⟩:=zuy (P:=Tryz.prog) (dT:=rowT) (sT:=rowT) (ty:=3) Tryz.underlying22 hs hl
 have lB:nB.length=l.length*3:=EB.len
 have hkept:=Kept.refl (fun _=>False) w
 obtain ⟨vO,hvO,hmO⟩:∃vO,Value.slice (some ⟨w.heap.size,0,none⟩) l.length l.length=vO∧
  (Instr.makeSlice rowT (.int .i64 (l.length:Int)) (.int .i64 (l.length:Int))).run Tryz.prog w= .ok vO (w.alloc (.cells Z 68)):=⟨_,rfl,hmk w⟩
 clear hmk
 go_enter Tryz.func72,Tryz.ntmps72
 go_wp2
 generalize hW1:w.alloc (.cells Z 68)=W1
 have k1:Kept (fun _=>False) w W1:=by rw [←hW1];exact hkept.alloc _
 have g1:W1.heap[w.heap.size]? =some (.cells Z 68 (0,0)):=by rw [←hW1];simp [-World.alloc_eq,World.alloc]
 have hY:(Z.toList.take 0++nB++Z.toList.drop (0+nB.length)).toArray=nB.toArray:=by
  rw [List.drop_eq_nil_of_le (by rw [Array.length_toList,hZ,lB];omega)]
  simp
 have hC1:(Builtin.copy_ #[rowT,rowT] 3 #[vO,.slice s0 l.length c0]).run Tryz.prog W1= .ok (goInt l.length) (W1.setRow w.heap.size nB.toArray):=by
  have h:=hcB W1 (fun b hb=>k1.block b hb (fun h=>h)) w.heap.size 0 l.length l.length _ Z g1 (Nat.le_refl _) (by rw [hZ];show 0+l.length*3≤_;omega)
  rw [hY] at h
  rw [←hvO]
  exact h
 rw [hC1]
 go_wp2
 go_ret
 refine ⟨w.heap.size,nB.toArray,by rw [hvO];rfl,k1.setRow (.inl hkept.size) _,hkept.size,setRow_heap W1 w.heap.size Z _ 68 _ g1,by rw [List.toList_toArray];exact EB⟩
set_option maxHeartbeats 3200000 in
theorem quu [Dfr] [zcx] (w:World) (F:Nat→Prop) (l:List Nd) (s0 s2:Option Addr) (c0 c2 xn k:Nat) (hF:∀b,F b→b<w.heap.size) (hg:zcr E F w)
 (hl:Cl F w (.slice 68 NdY) l [.slice s0 l.length c0]) (hk:k<l.length) (hn:zja (l.drop k)=some 0) (hll:l.length≤1000000) :
 Calls Tryz.prog 72 #[.slice s0 l.length c0,.int .i64 (k:Int),.slice s2 xn c2] w (qto F w l):=by
 have h0:(0:Int)≤(k:Int):=by omega
 have h1:(k:Int)<(l.length:Int):=by omega
 obtain ⟨vA,hA,clA⟩:=qow hl (lo:=some (.int .i64 (k:Int))) (hi:=none) (l:=(k:Int)) (h:=(l.length:Int)) (.inr ⟨_,rfl⟩) (.inl ⟨rfl,rfl⟩) h0 (by omega) (Int.le_refl _)
 have eA:cut l (k:Int) (l.length:Int)=l.drop k:=by rw [ztv];simp
 rw [eA] at clA
 have hs:(Tryz.prog.info? 68).map (·.size)=some NdY.sz:=by kernel_rfl
 obtain ⟨Z,hZ,hmk⟩:=qdu l.length (by omega)
 obtain ⟨nB,EB,hcB⟩:=zuy (P:=Tryz.prog) (dT:=rowT) (sT:=rowT) (ty:=3) Tryz.underlying22 hs hl
 have lB:nB.length=l.length*3:=EB.len
 go_enter Tryz.func72,Tryz.ntmps72
 go_wp2_with (go_at_fn 128)
 refine (qkp hn hF hg clA).mono ?_
 rintro e W ⟨rfl,hkept⟩
 obtain ⟨vO,hvO,hmO⟩:∃vO,Value.slice (some ⟨W.heap.size,0,none⟩) l.length l.length=vO∧
  (Instr.makeSlice rowT (.int .i64 (l.length:Int)) (.int .i64 (l.length:Int))).run Tryz.prog W= .ok vO (W.alloc (.cells Z 68)):=⟨_,rfl,hmk W⟩
 clear hmk
 go_wp2
 generalize hW1:W.alloc (.cells Z 68)=W1
 have k1:Kept (fun _=>False) w W1:=by rw [←hW1];exact hkept.alloc _
 have g1:W1.heap[W.heap.size]? =some (.cells Z 68 (0,0)):=by rw [←hW1];simp [-World.alloc_eq,World.alloc]
 have hY:(Z.toList.take 0++nB++Z.toList.drop (0+nB.length)).toArray=nB.toArray:=by
  rw [List.drop_eq_nil_of_le (by rw [Array.length_toList,hZ,lB];omega)]
  simp
 have hC1:(Builtin.copy_ #[rowT,rowT] 3 #[vO,.slice s0 l.length c0]).run Tryz.prog W1= .ok (goInt l.length) (W1.setRow W.heap.size nB.toArray):=by
  have h:=hcB W1 (fun b hb=>k1.block b hb (fun h=>h)) W.heap.size 0 l.length l.length _ Z g1 (Nat.le_refl _) (by rw [hZ];show 0+l.length*3≤_;omega)
  rw [hY] at h
  rw [←hvO]
  exact h
 rw [hC1]
 go_wp2
 go_ret
 refine ⟨W.heap.size,nB.toArray,by rw [hvO];rfl,k1.setRow (.inl hkept.size) _,hkept.size,setRow_heap W1 W.heap.size Z _ 68 _ g1,by rw [List.toList_toArray];exact EB⟩
end Go.Proofs.YtjolkdjkhekbnaaGreatDoor.Sv
