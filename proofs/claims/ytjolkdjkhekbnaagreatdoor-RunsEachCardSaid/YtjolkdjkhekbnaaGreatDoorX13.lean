/- plot.Over's contract, whole. -/
import Derived.Test.YtjolkdjkhekbnaaGreatDoorX12
import Derived.Test.YtjolkdjkhekbnaaGreatDoorW03r
import Derived.Test.YtjolkdjkhekbnaaGreatDoorX29
import Derived.Test.YtjolkdjkhekbnaaGreatDoorW11
import Derived.Test.YtjolkdjkhekbnaaGreatDoorX02
import Derived.Test.YtjolkdjkhekbnaaGreatDoorX14
import Derived.Test.YtjolkdjkhekbnaaGreatDoorX19
namespace Go.Proofs.YtjolkdjkhekbnaaGreatDoor.Sv
open Go Go.Sv Go.Proofs Go.Rd Go.RowKit Go.Shelf
set_option maxRecDepth 100000
def qdk (l:List Nd) (i:Nat):Nat:=(arI (l.getD i default).1).toNat
theorem qei [Dfr] (l:List Nd):∀(t:T) (i:Nat) (r:List Nd),t.ok→l.drop i=t.row++r→t.ybh (qdk l) i∧∀j,i≤j→j<i+t.size→qdk l j≤2∧arI (l.getD j default).1=(qdk l j:Int)
 | .n0 n,i,r,h,e=>by
   have h0:l.getD i default=n:=by
    have:l[i]? =some n:=by rw [←List.head?_drop,e];rfl
    rw [List.getD_eq_getElem?_getD,this];rfl
   have ha:arI n.1=0:=by unfold arI;rw [show ar n.1=some 0 from h];rfl
   have h1:qdk l i=0:=by unfold qdk;rw [h0,ha];rfl
   refine ⟨h1,fun j h2 h3=> ?_⟩
   simp only [T.size] at h3
   have:j=i:=by omega
   subst this
   rw [h1,h0,ha];exact ⟨by omega,rfl⟩
 | .n1 n a,i,r,h,e=>by
   have h0:l.getD i default=n:=by
    have:l[i]? =some n:=by rw [←List.head?_drop,e];rfl
    rw [List.getD_eq_getElem?_getD,this];rfl
   have ha:arI n.1=1:=by unfold arI;rw [show ar n.1=some 1 from h.1];rfl
   have h1:qdk l i=1:=by unfold qdk;rw [h0,ha];rfl
   obtain ⟨i1,i2⟩:=qei l a (i+1) r h.2 (by rw [←List.drop_drop,e];rfl)
   refine ⟨⟨h1,i1⟩,fun j h2 h3=> ?_⟩
   simp only [T.size] at h3
   by_cases hj:j=i
   ·subst hj;rw [h1,h0,ha];exact ⟨by omega,rfl⟩
   ·exact i2 j (by omega) (by omega)
 | .n2 n a b,i,r,h,e=>by
   have h0:l.getD i default=n:=by
    have:l[i]? =some n:=by rw [←List.head?_drop,e];rfl
    rw [List.getD_eq_getElem?_getD,this];rfl
   have ha:arI n.1=2:=by unfold arI;rw [show ar n.1=some 2 from h.1];rfl
   have h1:qdk l i=2:=by unfold qdk;rw [h0,ha];rfl
   have e1:l.drop (i+1)=a.row++(b.row++r):=by rw [←List.drop_drop,e];simp [T.row]
   have e2:l.drop (i+1+a.size)=b.row++r:=by rw [←List.drop_drop,e1,←T.zab a,List.drop_left]
   obtain ⟨i1,i2⟩:=qei l a (i+1) _ h.2.1 e1
   obtain ⟨i3,i4⟩:=qei l b (i+1+a.size) r h.2.2 e2
   refine ⟨⟨h1,i1,i3⟩,fun j h2 h3=> ?_⟩
   simp only [T.size] at h3
   by_cases hj:j=i
   ·subst hj;rw [h1,h0,ha];exact ⟨by omega,rfl⟩
   ·by_cases hj2:j<i+1+a.size
    ·exact i2 j (by omega) hj2
    ·exact i4 j (by omega) (by omega)
theorem yad [Dfr] (l:List Nd) (t:T) (ht:tree l=some t) (hl:l.length≤1000000):zys l=some true:=by
 obtain ⟨htok,hrow⟩:=zht.1 ht
 have hp:=T.zpv t
 have hlen:l.length=t.size:=by rw [hrow,T.zab]
 have hP:P l=some (t,[]):=by rw [hrow];exact qin htok
 have hsz:sz l=t.size:=by unfold sz;rw [hP]
 rw [quy,zpy l (by omega),hsz,decide_eq_true (show (l.length:Int)>0 by omega),hlen]
 simp
theorem zyw [Dfr] [zcx] (l:List Nd) (k:Int) (r:List Int) (h:zqc l k=some r):zbr Tryz.prog E 103 (l,k) r:=by
 unfold zqc at h
 split at h
 ·rename_i t ht
  split at h
  ·rename_i hc
   obtain ⟨hl,hk0,hk1⟩:=hc
   cases h
   obtain ⟨htok,hrow⟩:=zht.1 ht
   have hlen:l.length=t.size:=by rw [hrow,T.zab]
   obtain ⟨ho1,ho2⟩:=qei l t 0 [] htok (by rw [List.drop_zero,List.append_nil];exact hrow)
   intro w F0 G A vs hA
   obtain ⟨v0,v1,rfl,h0,h1⟩:∃v0 v1,vs=[v0,v1]∧Cl (A.F F0) w (.slice 68 NdT) l [v0]∧v1= .int .i64 k:=by
    have hr:=hA.rel
    cases hr with
    |cons a hr=>cases hr with
     |cons b hr=>cases hr;exact ⟨_,_,rfl,a,b⟩
   subst h1
   obtain ⟨s,cap,rfl⟩:∃s cap,v0= .slice s l.length cap:=by
    have h0:=h0
    rw [Cl] at h0
    obtain ⟨a,c,e,_⟩:=h0
    exact ⟨a,c,(List.cons.inj e).1⟩
   have hin:yvt w l s l.length cap:=fun W hW=>by
    have S:Step (A.F F0) (fun _=>False) w W:=⟨fun b _ hb=>hW.block b hb (by omega),fun b hb=>hb.elim⟩
    exact ⟨hA.glob.step S,Cl.step S h0⟩
   have hone:=yad l t ht hl
   have hit:=yua (qdk l) s l.length cap w hin hone rfl hl (fun i hi=>by
    rw [zkc]
    have:=(ho2 i (Nat.zero_le _) (by omega)).2
    rw [List.getD_eq_getElem?_getD,List.getElem?_eq_getElem hi,Option.getD_some] at this
    rw [this]) (fun i hi=>(ho2 i (Nat.zero_le _) (by omega)).1)
   obtain ⟨q,rfl⟩:=Int.eq_ofNat_of_zero_le hk0
   have hov:=yfb l.length (fun k=>topO (stkS (qdk l) k)) t.ovr (fun i hi=>by
    rw [T.yqy (qdk l) t ho1 i (by omega)]
    exact T.ysh t i (by omega)) hl s l.length cap w hit q (by omega)
   rw [callsIn_wide] at hov
   refine hov.mono ?_
   rintro e w' ⟨v,m,rfl,hv,hkept⟩
   have hsz:=hkept.size
   refine ⟨v,rfl,hkept.weak fun _ _ h=>h.elim,fun d=> ?_⟩
   have hm:m=((t.ovr ((q:Nat):Int).toNat).map fun (i:Nat)=>(i:Int)).length:=by
    have:=hv.1
    rw [List.length_map] at this
    rw [List.length_map,Int.toNat_natCast];omega
   rcases hv.2 with ⟨rfl,h0⟩|⟨g,cp,cur,rfl,hg,hh,hc,hm2,hcs,htk⟩
   ·have hnil:((t.ovr ((q:Nat):Int).toNat).map fun (i:Nat)=>(i:Int))=[]:=List.eq_nil_of_length_eq_zero (by omega)
    refine ⟨⟨fun _=>none,fun _=>none⟩,?_,fun _=>rfl,fun n b l h=>(by cases h),fun n n' b l l' h=>(by cases h)⟩
    exact .inl ⟨rfl,hnil,none,rfl⟩
   ·refine ⟨⟨fun _=>none,fun n=>if n=zay d 0 0 then some (g,m) else none⟩,?_,fun _=>rfl,fun n b l h=> ?_,fun n n' b l l' h h'=> ?_⟩
    ·refine .inr ⟨g,m,if_pos rfl,hm,cp,cur,by rw [←hm],hh,by rw [←hm];exact hc,hm2,hcs,fun i x hx=> ?_⟩
     refine ⟨[.int .i64 x],by rw [Cl],fun j u hu=> ?_⟩
     rw [List.getElem?_map] at hx
     obtain ⟨n,hn,rfl⟩:=Option.map_eq_some_iff.1 hx
     have h2:(List.take (m*1) cur.toList)[i]? =some (.int .i64 (n:Int)):=by
      rw [htk,List.getElem?_map]
      rw [Int.toNat_natCast] at hn
      rw [hn];rfl
     rw [List.getElem?_take] at h2
     split at h2
     ·match j,hu with
      |0,hu =>
       cases hu
       rw [Array.getElem?_toList] at h2
       simpa [Ty.sz] using h2
     ·cases h2
    ·simp only at h
     split at h
     ·cases h;exact ⟨.inl hg,(Array.getElem?_eq_some_iff.1 hh).1⟩
     ·cases h
    ·simp only at h h'
     split at h
     ·split at h'
      ·rename_i e1 e2;rw [e1,e2]
      ·cases h'
     ·cases h
  ·cases h
 ·cases h
end Go.Proofs.YtjolkdjkhekbnaaGreatDoor.Sv
namespace Go.Proofs.YtjolkdjkhekbnaaGreatDoor.Sv
open Go Go.Sv Go.Proofs Go.Rd Go.RowKit
set_option maxRecDepth 100000
attribute [local go_sem] Oper.semAt_some
set_option maxHeartbeats 1600000 in
theorem yss [Dfr] [zcx] {F:Nat→Prop} {w:World} {v vt:Value} {l:List Nd} {t:Tc} (hF:∀b,F b→b<w.heap.size) (hg:zcr E F w) (hc:Cl F w (.slice 68 NdY) l [v]) (ht:Cl F w StY t.1 [vt]) (hl:l.length≤1000000) (h0:chkR l≠0) :
 Calls Tryz.prog 24 #[v,.agg #[vt,.int .i64 t.2]] w fun e w'=>∃u,e= .returned (.tuple #[u,.bool (zlj l t).2])∧Kept (fun _=>False) w w'∧Cl F w' (.slice 3 (.int .i64)) (zlj l t).1 [u]:=by
 have hchk:=zsv l (by omega)
 rw [zzl (fun h=>h0 h.1)]
 obtain ⟨z,hz⟩:∃z,chkR l=z:=⟨_,rfl⟩
 rw [hz] at hchk h0
 have kB:=zbi w (Obj.cells #[vt,.int .i64 t.2] 33)
 have sB:Step F F w (w.alloc (Obj.cells #[vt,.int .i64 t.2] 33)):=zar kB fun _ h=>h.elim
 have hFB:∀b,F b→b<(w.alloc (Obj.cells #[vt,.int .i64 t.2] 33)).heap.size:=fun b hb=>Nat.lt_of_lt_of_le (hF b hb) kB.size
 obtain ⟨s,c,rfl⟩:=zca hc
 obtain ⟨st,ct,rfl⟩:=zca ht
 go_enter Tryz.func24,Tryz.ntmps24
 go_wp2_with (go_at_fn 47)
 refine (zxh hchk hFB (hg.step sB) (hc.step sB)).mono ?_
 rintro e w1 ⟨rfl,hk1⟩
 go_wp2
 go_ret2
 refine ⟨_,rfl,kB.trans hk1 fun _ h=>h.elim,?_⟩
 rw [Cl]
 exact ⟨none,0,rfl,Nat.le_refl _,.inl rfl⟩
theorem qoo [Dfr] [zcx] [zcd] [zdz] [zjx] (l:List Nd) (t:Tc) (r:List Int×Bool) (h:zqi l t=some r):zbr Tryz.prog E 24 (l,t) r:=by
 unfold zqi at h
 split at h
 ·rename_i hc
  cases h
  intro w F0 G A vs hA
  obtain ⟨v0,vt,rfl,h0,ht⟩:∃v0 vt,vs=[v0,.agg #[vt,.int .i64 t.2]]∧Cl (A.F F0) w (.slice 68 NdY) l [v0]∧Cl (A.F F0) w StY t.1 [vt]:=by
   have hr:=hA.rel
   cases hr with
   |cons a hr=>cases hr with
    |cons b hr =>
     cases hr
     obtain ⟨ws,e,hw⟩:=b
     cases hw with
     |cons k0 hw=>cases hw with
      |cons k1 hw =>
       cases hw
       cases k1
       exact ⟨_,_,by rw [e],a,k0⟩
  have hF:∀b,A.F F0 b→b<w.heap.size:=fun b hb=>by
   rcases hb with hb|⟨d,hb⟩|⟨n,l,hb⟩
   ·exact (hA.f0 b hb).1
   ·rw [hA.bx] at hb;cases hb
   ·exact (hA.tgm n b l hb).2
  have hcalls:Calls Tryz.prog 24 #[v0,.agg #[vt,.int .i64 t.2]] w fun e w'=>∃u,e= .returned (.tuple #[u,.bool (zlj l t).2])∧Kept (fun _=>False) w w'∧Cl (A.F F0) w' (.slice 3 (.int .i64)) (zlj l t).1 [u]:=by
   by_cases h2:chkR l=0
   ·obtain ⟨n,rfl,hn⟩:=qee h2
    exact ynf hF hA.glob h0 ht hn hc.2.1 hc.2.2
   ·exact yss hF hA.glob h0 ht hc.1 h2
  refine hcalls.mono ?_
  rintro e w' ⟨u,rfl,hk,hu⟩
  refine ⟨_,rfl,zjh hk,fun d=>⟨⟨fun _=>none,fun _=>none⟩,?_,fun _=>rfl,fun n b l h=>(by cases h),fun n n' b l l' h h'=>(by cases h)⟩⟩
  have hu':Cl (Fr.F ⟨fun _=>none,fun _=>none⟩ F0) w' (.slice 3 (.int .i64)) (zlj l t).1 [u]:=Cl.lift (fun b hb=>by
   rcases hb with hb|⟨d',hb⟩|⟨n,l',hb⟩
   ·exact .inl hb
   ·cases hb
   ·cases hb) hu
  exact ⟨[u,.bool (zlj l t).2],rfl,.cons hu' (.cons rfl .nil)⟩
 ·cases h
end Go.Proofs.YtjolkdjkhekbnaaGreatDoor.Sv
namespace Go.Proofs.YtjolkdjkhekbnaaGreatDoor.Sv
open Go Go.Sv Go.Proofs Go.Rd
set_option maxRecDepth 100000
@[reducible] def dfr0:Dfr where
 d_plot_Over:=fun _ _=>none
 d_trace_Mix:=fun _ _=>none
 d_move_ways:=none
 d_step_Put:=fun _ _ _=>none
 d_runs_All:=fun _=>none
 d_runs_Find:=fun _ _=>none
theorem qpf:zak Tryz.prog 103:=⟨Tryz.f103,Tryz.func103,by kernel_rfl,by kernel_rfl⟩
theorem qwo:zak Tryz.prog 180:=⟨Tryz.f180,Tryz.func180,by kernel_rfl,by kernel_rfl⟩
theorem qpe:zak Tryz.prog 59:=⟨Tryz.f59,Tryz.func59,by kernel_rfl,by kernel_rfl⟩
theorem qwn:zak Tryz.prog 72:=⟨Tryz.f72,Tryz.func72,by kernel_rfl,by kernel_rfl⟩
theorem qwq:zak Tryz.prog 20:=⟨Tryz.f20,Tryz.func20,by kernel_rfl,by kernel_rfl⟩
theorem qpg:zak Tryz.prog 24:=⟨Tryz.f24,Tryz.func24,by kernel_rfl,by kernel_rfl⟩
theorem ok0: @zcx dfr0 :=
 letI:=dfr0
 {
 c_plot_Over:=⟨qpf,fun x r h=>by cases h⟩
 c_trace_Mix:=⟨qwo,fun x r h=>by cases h⟩
 c_move_ways:=⟨qpe,fun x r h=>by cases h⟩
 c_step_Put:=⟨qwn,fun x r h=>by cases h⟩
 c_runs_All:=⟨qwq,fun x r h=>by cases h⟩
 c_runs_Find:=⟨qpg,fun x r h=>by cases h⟩
 }
@[reducible] noncomputable def dfr1:Dfr where
 d_plot_Over:=zqc
 d_trace_Mix:=zyy
 d_move_ways:=some tabW
 d_step_Put:=zum
 d_runs_All:=fun _=>none
 d_runs_Find:=fun _ _=>none
theorem ok1: @zcx dfr1 :=
 letI:=dfr1
 {
 c_plot_Over:=⟨qpf,fun x r h=>zez (@zyw dfr0 ok0 x.1 x.2 r h)⟩
 c_trace_Mix:=⟨qwo,fun x r h=>zez (@qck dfr0 ok0 x.1 x.2 r h)⟩
 c_move_ways:=⟨qpe,fun x r h=>by cases h;exact @zxs dfr1⟩
 c_step_Put:=⟨qwn,fun x r h=>zez (@qce dfr0 ok0 x.1 x.2.1 x.2.2 r h)⟩
 c_runs_All:=⟨qwq,fun x r h=>by cases h⟩
 c_runs_Find:=⟨qpg,fun x r h=>by cases h⟩
 }
theorem yur: @zcd dfr1:= @zcd.mk dfr1 fun _ _=>rfl
theorem ytr: @zdz dfr1:= @zdz.mk dfr1 rfl
theorem put1: @zjx dfr1:= @zjx.mk dfr1 fun _ _ _=>rfl
noncomputable instance topDfr:Dfr where
 d_plot_Over:=zqc
 d_trace_Mix:=zyy
 d_move_ways:=some tabW
 d_step_Put:=zum
 d_runs_All:=zrz
 d_runs_Find:=zqi
instance topOK:zcx where
 c_plot_Over:=⟨qpf,fun x r h=>zez (@zyw dfr0 ok0 x.1 x.2 r h)⟩
 c_trace_Mix:=⟨qwo,fun x r h=>zez (@qck dfr0 ok0 x.1 x.2 r h)⟩
 c_move_ways:=⟨qpe,fun x r h=>by cases h;exact @zxs topDfr⟩
 c_step_Put:=⟨qwn,fun x r h=>zez (@qce dfr0 ok0 x.1 x.2.1 x.2.2 r h)⟩
 c_runs_All:=⟨qwq,fun x r h=>zez (@qtm dfr1 ok1 yur ytr put1 x r h)⟩
 c_runs_Find:=⟨qpg,fun x r h=>zez (@qoo dfr1 ok1 yur ytr put1 x.1 x.2 r h)⟩
instance topOver:zcd:=⟨fun _ _=>rfl⟩
instance topMix:yvy:=⟨fun _ _=>rfl⟩
instance topWays:zdz:=⟨rfl⟩
instance topPut:zjx:=⟨fun _ _ _=>rfl⟩
instance topAll:qcu:=⟨fun _=>rfl⟩
instance topFind:zxj:=⟨fun _ _=>rfl⟩
end Go.Proofs.YtjolkdjkhekbnaaGreatDoor.Sv
