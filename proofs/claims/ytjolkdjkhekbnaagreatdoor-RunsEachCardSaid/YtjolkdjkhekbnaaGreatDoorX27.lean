/- The explorer itself, and runs.All. -/
import Derived.Test.YtjolkdjkhekbnaaGreatDoorX26
import Derived.RangeFuncBox
import Derived.Test.YtjolkdjkhekbnaaGreatDoorW14
import Derived.Test.YtjolkdjkhekbnaaGreatDoorM3
import Derived.Test.YtjolkdjkhekbnaaGreatDoorR11
import Derived.Test.YtjolkdjkhekbnaaGreatDoorW03r
namespace Go.Proofs.YtjolkdjkhekbnaaGreatDoor.Sv
open Go Go.Sv Go.Proofs Go.Rd Go.RowKit
set_option maxRecDepth 100000
attribute [local go_sem] Oper.semAt_some
theorem qvx [Dfr] [zcx] [zcd] [zdz] [zjx]:∀(c:Nat) (n:Tm),Good n→cntW n.row≤8→cntW n.row<c→ynu n
 |0,_,_,_,h=>absurd h (Nat.not_lt_zero _)
 |c+1,n,hn,h8,hc=>by
  cases ho:n.zhh with
  |true =>
   cases n<;>first|exact yng _|cases ho
  |false=>exact ynh yuy hn ho h8 fun n' h1 h2=>qvx c n' h1 (by omega) (by omega)
set_option maxHeartbeats 2000000 in
theorem zvv [Dfr] [zcx] {F:Nat→Prop} {w:World} (hF:∀b,F b→b<w.heap.size):Calls Tryz.prog 49 #[] w fun e w'=>∃kb eb mb,e= .returned (.func (.func 83) #[] #[.pointer (some ⟨kb,0,none⟩),.pointer (some ⟨eb,0,none⟩)])∧Kept (fun _=>False) w w'∧w.heap.size≤mb∧Memo (fun b=>F b∨b=mb) w' kb eb mb:=by
 go_enter Tryz.func49,Tryz.ntmps49
 have hmk:=run_makeMap (P:=Tryz.prog) 111 w
 have hbx:Boxed (((w.alloc (.map #[] 0)).alloc (.cells #[.map (some w.heap.size)] 111)).alloc (.cells #[.nilFunc] 82)) (w.heap.size+1+1) 82 .nilFunc:=by
  have:=Boxed.new ((w.alloc (.map #[] 0)).alloc (.cells #[.map (some w.heap.size)] 111)) 82 .nilFunc
  rwa [World.size_alloc,World.size_alloc] at this
 have hsf:=fun (a:Addr) (c:Array Value) (w:World)=>run_store Tryz.prog w a (.func (.func 83) #[] c) .plain rfl
 have hb1:=hbx.cell
 have hb2:=hbx.frozen
 go_wp2_with fail
 clear hb1 hb2 hsf hbx hmk
 go_ret
 obtain ⟨w1,h1⟩:∃w1,w.alloc (Obj.map #[] 0)=w1:=⟨_,rfl⟩
 obtain ⟨w2,h2⟩:∃w2,w1.alloc (Obj.cells #[Value.map (some w.heap.size)] 111)=w2:=⟨_,rfl⟩
 have s1:w1.heap.size=w.heap.size+1:=by rw [←h1];simp
 have s2:w2.heap.size=w.heap.size+1+1:=by rw [←h2,World.size_alloc,s1]
 have k1:Kept (fun _=>False) w w1:=h1▸zbi w _
 have k2:Kept (fun _=>False) w1 w2:=h2▸zbi w1 _
 rw [h1,h2]
 obtain ⟨w3,h3⟩:∃w3,w2.alloc (Obj.cells #[zek 83 (w.heap.size+1) (w.heap.size+1+1)] 82)=w3:=⟨_,rfl⟩
 have k3:Kept (fun _=>False) w2 w3:=h3▸zbi w2 _
 have h3':w2.alloc (Obj.cells #[Value.func (Fn.func 83) #[] #[Value.pointer (some {block:=w.heap.size+1,off:=0}),Value.pointer (some {block:=w.heap.size+1+1,off:=0})]] 82)=w3:=h3
 rw [h3']
 have m1:w1.heap[w.heap.size]? =some (.map #[] 0):=by rw [←h1];exact World.alloc_heap_new w _
 have m2:w2.heap[w.heap.size+1]? =some (.cells #[.map (some w.heap.size)] 111 (0,0)):=by rw [←h2,←s1];exact World.alloc_heap_new w1 _
 have m3:w3.heap[w.heap.size+1+1]? =some (.cells #[zek 83 (w.heap.size+1) (w.heap.size+1+1)] 82 (0,0)):=by rw [←h3,←s2];exact World.alloc_heap_new w2 _
 refine ⟨w.heap.size+1,w.heap.size+1+1,w.heap.size,rfl,(k1.trans k2 fun _ h=>h.elim).trans k3 fun _ h=>h.elim,Nat.le_refl _,⟨(k3.block _ (by omega) id).trans m2,m3,⟨#[],0,(k3.block _ (by omega) id).trans ((k2.block _ (by omega) id).trans m1),fun x hx=>by simp at hx⟩,fun h=> ?_,fun h=> ?_,.inr rfl⟩⟩
 ·rcases h with h|h
  ·have:=hF _ h;omega
  ·omega
 ·rcases h with h|h
  ·have:=hF _ h;omega
  ·omega
end Go.Proofs.YtjolkdjkhekbnaaGreatDoor.Sv
namespace Go.Proofs.YtjolkdjkhekbnaaGreatDoor.Sv
open Go Go.Sv Go.Rd
noncomputable def chkR (l:List Nd):Int:=if on (sOf l)=3 then (if l≠[]∧zbw l=l then (if zvk l then 0 else 70) else 1) else 1
theorem zsv [Dfr] (l:List Nd) (hl:l.length≤4611686018427387904):zuh l=some (chkR l):=by
 rw [qnm,qqk l false hl]
 simp only [Option.bind_some,zhv l hl,qse]
 unfold chkR
 simp only [Bool.false_eq_true,if_false]
 by_cases h1:on (sOf l)=3
 ·rw [decide_eq_true h1,if_pos h1]
  simp only [Bool.not_true,cond_false]
  by_cases h2:l≠[]∧zbw l=l
  ·rw [decide_eq_true h2,if_pos h2]
   simp only [Bool.not_true,cond_false]
   by_cases h3:zvk l
   ·rw [decide_eq_true h3,if_pos h3];rfl
   ·rw [decide_eq_false h3,if_neg h3];rfl
  ·rw [decide_eq_false h2,if_neg h2];rfl
 ·rw [decide_eq_false h1,if_neg h1];rfl
theorem qee [Dfr] {l:List Nd} (h:chkR l=0):∃n:Tm,l=n.row∧Good n:=by
 unfold chkR at h
 split at h
 ·rename_i h1
  split at h
  ·rename_i h2
   split at h
   ·rename_i h3
    obtain ⟨m,e,hf,hz,ho,hst,hso⟩:=qng h2
    subst e
    refine ⟨m,rfl,hf,hst,?_,qak.1 h3⟩
    rw [Tm.ykg,←hso]
    exact decide_eq_true h1
   ·cases h
  ·cases h
 ·cases h
theorem zzg [Dfr] {n:Tm} (h:Good n):chkR n.row=0:=by
 have h1:on (sOf n.row)=3:=by
  rw [ydo h.1 (by have:=h.2.2.2.1;omega)]
  exact of_decide_eq_true ((Tm.ykg n).symm.trans h.2.2.1)
 unfold chkR
 have h2:n.row≠[]∧zbw n.row=n.row:=h.set
 rw [if_pos h1,if_pos h2,if_pos (qak.2 h.2.2.2)]
theorem zgd [Dfr] {n:Tm} (h:Good n):trL n.row=n.tr:=qeq h.1 (by have:=h.2.2.2.1;omega)
noncomputable def allR (l:List Nd):List Tc×Int:=if chkR l=0 then (trL l,0) else ([],chkR l)
noncomputable def zrz (l:List Nd):Option (List Tc×Int):=if l.length≤1000000∧cntW l≤8 then some (allR l) else none
class qcu [Dfr]:Prop where
 all:∀l,zma l=zrz l
end Go.Proofs.YtjolkdjkhekbnaaGreatDoor.Sv
namespace Go.Proofs.YtjolkdjkhekbnaaGreatDoor.Sv
open Go Go.Sv Go.Proofs Go.Rd Go.RowKit
set_option maxRecDepth 100000
attribute [local go_sem] Oper.semAt_some
set_option maxHeartbeats 3200000 in
theorem yic [Dfr] [zcx] [zcd] [zdz] [zjx] {F:Nat→Prop} {w:World} {v:Value} {l:List Nd} (hF:∀b,F b→b<w.heap.size) (hg:zcr E F w) (hc:Cl F w (.slice 68 NdY) l [v]) (hl:l.length≤1000000) (h8:cntW l≤8) :
 Calls Tryz.prog 20 #[v] w fun e w'=>∃u,e= .returned (.tuple #[u,.int .i64 (allR l).2])∧Kept (fun _=>False) w w'∧Cl F w' (.slice 33 TcY) (allR l).1 [u]:=by
 have hchk:=zxh (zsv l (by omega)) hF hg hc
 obtain ⟨z,hz⟩:∃z,chkR l=z:=⟨_,rfl⟩
 rw [hz] at hchk
 unfold allR
 rw [hz]
 by_cases h0:z=0
 ·subst h0
  obtain ⟨n,rfl,hn⟩:=qee hz
  rw [if_pos rfl,zgd hn]
  go_enter Tryz.func20,Tryz.ntmps20
  go_wp2_with (go_at_fn 47)
  refine hchk.mono ?_
  rintro e w1 ⟨rfl,hk1⟩
  have s1:Step F F w w1:=zar hk1 fun _ h=>h.elim
  have hF1:∀b,F b→b<w1.heap.size:=fun b hb=>Nat.lt_of_lt_of_le (hF b hb) hk1.size
  go_wp2_with (go_at_fn 49)
  refine (zvv hF1).mono ?_
  rintro e w2 ⟨kb,eb,mb,rfl,hk2,hmb,hm2⟩
  have s2:Step F (fun b=>F b∨b=mb) w w2:=⟨fun b hb hlt=>(hk2.block b (Nat.lt_of_lt_of_le hlt hk1.size) id).trans (hk1.block b hlt id),fun b hb=>hb.imp id fun e=>by have:=hk1.size;omega⟩
  have hF2:∀b,(F b∨b=mb)→b<w2.heap.size:=fun b hb=>by
   rcases hb with hb|rfl
   ·exact Nat.lt_of_lt_of_le (hF1 b hb) hk2.size
   ·exact hm2.lt.2.2
  have hexp:=qvx (cntW n.row+1) n hn h8 (Nat.lt_succ_self _) w2 (fun b=>F b∨b=mb) v kb eb mb hF2 (hg.step s2) (hc.step s2) hm2
  go_wp2_with (go_at_fn 83)
  refine hexp.mono ?_
  rintro e w3 ⟨s,c,rfl,hk3,hm3,hc3⟩
  have hk03:Kept (fun _=>False) w w3:=(hk1.trans hk2 fun _ h=>h.elim).trans hk3 fun x h=>.inr (by have:=hk1.size;omega)
  have s3:Step (fun b=>F b∨b=mb) (fun b=>F b∨b=mb) w2 w3:=zar hk3 fun b h=>.inr h
  have hF3:∀b,(F b∨b=mb)→b<w3.heap.size:=fun b hb=>Nat.lt_of_lt_of_le (hF2 b hb) hk3.size
  have hsh:zyf n.tr:=fewT.short fun x hx=>Nat.le_trans (zny hn.2.2.2 x hx) (by decide)
  have hlen:=qag hn h8
  have hset:zpl n.tr=some n.tr:=by rw [qel _ (by omega) hsh,qth ordT (Tm.qxq n)]
  go_wp2_with (go_at_fn 48)
  refine (qqo hset hF3 ((hg.step s2).step s3) hc3).mono ?_
  rintro e w4 ⟨s',c',rfl,hk4,hc4⟩
  go_wp2
  go_ret2
  exact ⟨_,rfl,hk03.trans hk4 fun _ h=>h.elim,Cl.lift (fun b hb=>.inl hb) hc4⟩
 ·rw [if_neg h0]
  go_enter Tryz.func20,Tryz.ntmps20
  go_wp2_with (go_at_fn 47)
  refine hchk.mono ?_
  rintro e w1 ⟨rfl,hk1⟩
  go_wp2
  go_ret2
  refine ⟨_,rfl,hk1,?_⟩
  rw [Cl]
  exact ⟨none,0,rfl,Nat.le_refl _,.inl rfl⟩
theorem qtm [Dfr] [zcx] [zcd] [zdz] [zjx] (l:List Nd) (r:List Tc×Int) (h:zrz l=some r):zbr Tryz.prog E 20 l r:=by
 unfold zrz at h
 split at h
 ·rename_i hc
  cases h
  intro w F0 G A vs hA
  obtain ⟨v0,rfl,h0⟩:∃v0,vs=[v0]∧Cl (A.F F0) w (.slice 68 NdY) l [v0]:=by
   have hr:=hA.rel
   cases hr with
   |cons a hr=>cases hr;exact ⟨_,rfl,a⟩
  have hF:∀b,A.F F0 b→b<w.heap.size:=fun b hb=>by
   rcases hb with hb|⟨d,hb⟩|⟨n,l,hb⟩
   ·exact (hA.f0 b hb).1
   ·rw [hA.bx] at hb;cases hb
   ·exact (hA.tgm n b l hb).2
  refine (yic hF hA.glob h0 hc.1 hc.2).mono ?_
  rintro e w' ⟨u,rfl,hk,hu⟩
  refine ⟨_,rfl,zjh hk,fun d=>⟨⟨fun _=>none,fun _=>none⟩,?_,fun _=>rfl,fun n b l h=>(by cases h),fun n n' b l l' h h'=>(by cases h)⟩⟩
  have hu':Cl (Fr.F ⟨fun _=>none,fun _=>none⟩ F0) w' (.slice 33 TcY) (allR l).1 [u]:=Cl.lift (fun b hb=>by
   rcases hb with hb|⟨d',hb⟩|⟨n,l',hb⟩
   ·exact .inl hb
   ·cases hb
   ·cases hb) hu
  exact ⟨[u,.int .i64 (allR l).2],rfl,.cons hu' (.cons rfl .nil)⟩
 ·cases h
end Go.Proofs.YtjolkdjkhekbnaaGreatDoor.Sv
namespace Go.Proofs.YtjolkdjkhekbnaaGreatDoor.Sv
open Go Go.Sv Go.Rd
def zmb (t:Tc) (nm:ByteArray):Tc×Bool :=
 if nm=(⟨#[]⟩:ByteArray) then (t,true) else match t.1 with
 |[]=>(t,false)
 |a::r=>if a=nm then ((r,t.2),true) else (t,false)
theorem yea [Dfr] {t:Tc} {nm:ByteArray} {L:List Tc}:t∈zjw nm L↔(zmb t nm).2=true∧(zmb t nm).1∈L:=by
 obtain ⟨A,s⟩:=t
 unfold zjw zmb
 rw [List.mem_map]
 by_cases h:nm=(⟨#[]⟩:ByteArray)
 ·simp only [h,if_true,List.nil_append,true_and]
  constructor
  ·rintro ⟨x,hx,e⟩;rw [←e];exact hx
  ·intro hx;exact ⟨_,hx,rfl⟩
 ·simp only [if_neg h]
  cases A with
  |nil =>
   constructor
   ·rintro ⟨x,hx,e⟩
    have:=congrArg Prod.fst e
    simp at this
   ·rintro ⟨h,_⟩;cases h
  |cons a r =>
   by_cases ha:a=nm
   ·subst ha
    simp only [if_true,true_and]
    constructor
    ·rintro ⟨x,hx,e⟩
     obtain ⟨X,y⟩:=x
     simp only [List.cons_append,List.nil_append,Prod.mk.injEq,List.cons.injEq,true_and] at e
     obtain ⟨rfl,rfl⟩:=e
     exact hx
    ·intro hx;exact ⟨_,hx,rfl⟩
   ·simp only [if_neg ha,Bool.false_eq_true,false_and,iff_false]
    rintro ⟨x,hx,e⟩
    have:=congrArg Prod.fst e
    simp only [List.cons_append,List.nil_append,List.cons.injEq] at this
    exact ha this.1.symm
theorem yeb [Dfr] {t:Tc} {nm:ByteArray}:(zmb t nm).1.1.length≤t.1.length:=by
 unfold zmb
 split
 ·exact Nat.le_refl _
 ·split
  ·exact Nat.le_refl _
  ·rename_i h
   split
   ·rw [h];simp
   ·rw [h];exact Nat.le_refl _
theorem qui [Dfr] (t:Tc) (nm:ByteArray) (ht:t.1.length≤1000000000):zyq t nm=some (zmb t nm):=by
 obtain ⟨A,s⟩:=t
 rw [qqr]
 unfold zmb
 by_cases h:nm=(⟨#[]⟩:ByteArray)
 ·subst h
  rw [if_pos rfl,beq_self_eq_true]
  rfl
 ·have h1:(nm.toList==(⟨#[]⟩:ByteArray).toList)=false:=by
   rw [Bool.eq_false_iff]
   intro e
   exact h (toList_inj (eq_of_beq e))
  rw [h1,cond_false,if_neg h]
  cases A with
  |nil=>rfl
  |cons a r =>
   have h2:(((a::r).length:Int)==0)=false:=by simp;omega
   have h3:zaa 0 (a::r).length=true:=by simp [zaa]
   have h4:zcc 1 ((a::r).length:Int) (a::r).length=true:=by simp [zcc];omega
   simp only [h2,cond_false,h3,cond_true,h4]
   by_cases ha:a=nm
   ·subst ha
    have h5:(ix (a::r) 0).toList==a.toList:=by simp [ix]
    rw [h5]
    simp only [Bool.not_true,cond_false,if_true]
    congr 2
    simp [cut]
   ·have h5:((ix (a::r) 0).toList==nm.toList)=false:=by
     rw [Bool.eq_false_iff]
     intro e
     exact ha (toList_inj (by simpa [ix] using eq_of_beq e))
    rw [h5,if_neg ha]
    rfl
def hitR (l:List Nd) (t:Tc) (mv:Mv):Prop:=(zmb t (zds l mv).2.1).2=true∧(zmb t (zds l mv).2.1).1∈trL (zds l mv).1
noncomputable def hitB (l:List Nd) (t:Tc) (mv:Mv):Bool:= @decide (hitR l t mv) (Classical.propDecidable _)
theorem qdw [Dfr] {l:List Nd} {t:Tc} {mv:Mv}:hitB l t mv=true↔hitR l t mv:= @decide_eq_true_iff _ (Classical.propDecidable _)
theorem qyj [Dfr] {n:Tm} (h:Good n) {mv:Mv} (hm:mv∈enL n.row) (t:Tc):hitR n.row t mv↔t∈zsm n.row mv:=by
 obtain ⟨n',e1,_,hg,_,e2,_,_⟩:=ztm h hm
 unfold hitR
 rw [e2,yea,e1,zgd hg]
theorem yqa [Dfr] {n:Tm} (h:Good n) (ho:n.zhh=false) {t:Tc}:t∈n.tr↔∃mv∈enL n.row,hitR n.row t mv:=by
 rw [←qmu h.set h.2.2.1 h.2.2.2 ho t,List.mem_flatMap]
 constructor
 ·rintro ⟨mv,hm,hx⟩;exact ⟨mv,hm,(qyj h hm t).2 hx⟩
 ·rintro ⟨mv,hm,hx⟩;exact ⟨mv,hm,(qyj h hm t).1 hx⟩
noncomputable def zto (l:List Nd) (t:Tc):Option Nat:=(enL l).findIdx? (hitB l t)
noncomputable def picks:Nat→List Nd→Tc→List Int
 |0,_,_=>[]
 |c+1,l,t=>match zto l t with
  |none=>[]
  |some k=>(k:Int)::picks c (zds l ((enL l).getD k default)).1 (zmb t (zds l ((enL l).getD k default)).2.1).1
theorem yfc [Dfr] (s:Int):enL (Tm.over s).row=[]:=by
 have h:=qwa (Tm.over s).row
 have e:cntW (Tm.over s).row=0:=rfl
 rw [e] at h
 exact List.eq_nil_of_length_eq_zero (by omega)
theorem qaq [Dfr] (c:Nat) (s:Int) (t:Tc):picks c (Tm.over s).row t=[]:=by
 cases c with
 |zero=>rfl
 |succ c =>
  have h:enL (Tm.over s).row=[]:=yfc s
  have h2:zto (Tm.over s).row t=none:=by unfold zto;rw [h];rfl
  unfold picks
  rw [h2]
theorem ygr [Dfr] {l:List Nd} {t:Tc} {k:Nat} (hk:k<(enL l).length) (h1:hitR l t (enL l)[k]) (h0:∀j,(hj:j<k)→¬hitR l t ((enL l)[j]'(by omega))):zto l t=some k:=by
 unfold zto
 rw [List.findIdx?_eq_some_iff_getElem]
 refine ⟨hk,qdw.2 h1,fun j hj=> ?_⟩
 intro h
 exact h0 j hj (qdw.1 h)
theorem qny [Dfr] {l:List Nd} {t:Tc} {k c:Nat} (hk:k<(enL l).length) (h1:hitR l t (enL l)[k]) (h0:∀j,(hj:j<k)→¬hitR l t ((enL l)[j]'(by omega))) :
 picks (c+1) l t=(k:Int)::picks c (zds l (enL l)[k]).1 (zmb t (zds l (enL l)[k]).2.1).1:=by
 have e:(enL l).getD k default=(enL l)[k]:=by rw [List.getD_eq_getElem?_getD,List.getElem?_eq_getElem hk];rfl
 show (match zto l t with|none=>[]|some k=>_)=_
 rw [ygr hk h1 h0]
 simp only [e]
noncomputable def zlj (l:List Nd) (t:Tc):List Int×Bool :=
 match @decide (chkR l=0∧t∈trL l) (Classical.propDecidable _) with
 |true=>(picks (cntW l+1) l t,true)
 |false=>([],false)
theorem ztp [Dfr] {l:List Nd} {t:Tc} (h:chkR l=0∧t∈trL l):zlj l t=(picks (cntW l+1) l t,true):=by unfold zlj;rw [@decide_eq_true _ (Classical.propDecidable _) h]
theorem zzl [Dfr] {l:List Nd} {t:Tc} (h:¬(chkR l=0∧t∈trL l)):zlj l t=([],false):=by unfold zlj;rw [@decide_eq_false _ (Classical.propDecidable _) h]
noncomputable def zqi (l:List Nd) (t:Tc):Option (List Int×Bool):=if l.length≤1000000∧cntW l≤8∧t.1.length≤1000000 then some (zlj l t) else none
class zxj [Dfr]:Prop where
 find:∀l t,zkl l t=zqi l t
theorem yfk [Dfr] (l:List Nd) (m:Mv):(zds l m).1.length≤200:=by
 unfold zds
 split
 ·exact qfv _
 ·simp
noncomputable def qdc:List Nd→List ByteArray→Int→List Int→List Nd×Tc
 |l,A,n,[]=>(l,A,n)
 |l,A,n,p::r=>if (zmy (enL l) p).2=0 then qdc (zds l (zmy (enL l) p).1).1 (if (zmy (enL l) p).1.2=1 then A++[(zds l (zmy (enL l) p).1).2.1] else A) (n+1) r else (l,A,n)
theorem zrg [Dfr] [zcd] [zdz] [zjx] (y4:List Nd×Tc) (ps:List Int) (hp:ps.length≤1000000):∀(r:List Int) (i:Nat) (l:List Nd) (A:List ByteArray) (k:Nat),ps.drop i=r→l.length≤400000→A.length≤i→k≤i→
 ∃y4',zks y4 (l,A,(k:Int)) ps (ps.length:Int) (i:Int)=some (0,(y4',qdc l A (k:Int) r))
 |[],i,l,A,k,h,hl,hA,hk=>by
  obtain ⟨h1,h2⟩:=drop_nil h
  rw [zsx]
  simp only [h2,cond_false]
  exact ⟨_,rfl⟩
 |p::r,i,l,A,k,h,hl,hA,hk=>by
  obtain ⟨h1,h2,h3,h4,h5,h6⟩:=zan h
  rw [zsx]
  simp only [h2,h3,h4,cond_true,qve l p (by omega),Option.bind_some]
  unfold qdc
  by_cases h0:(zmy (enL l) p).2=0
  ·have hb:((zmy (enL l) p).2 != 0)=false:=by rw [h0];rfl
   rw [if_pos h0]
   simp only [hb,cond_false,zwg l _ (show l.length≤400000 from hl),Option.bind_some]
   have hnl:=yfk l (zmy (enL l) p).1
   have hw:w64 ((k:Int)+1)=((k+1:Nat):Int):=zen (by omega)
   by_cases h1:(zmy (enL l) p).1.2=1
   ·have hb1:((zmy (enL l) p).1.2==1)=true:=by rw [h1];rfl
    rw [if_pos h1]
    simp only [hb1,cond_true,hw,room (show (A.length+1)*16≤140737488355328 by omega),zen (show i<9223372036854775807 by omega)]
    obtain ⟨y',e⟩:=zrg y4 ps hp r (i+1) (zds l (zmy (enL l) p).1).1 (A++[(zds l (zmy (enL l) p).1).2.1]) (k+1) h5 (by omega) (by simp;omega) (by omega)
    exact ⟨y',by rw [e];rfl⟩
   ·have hb1:((zmy (enL l) p).1.2==1)=false:=by rw [Bool.eq_false_iff];intro e;exact h1 (eq_of_beq e)
    rw [if_neg h1]
    simp only [hb1,cond_false,hw,zen (show i<9223372036854775807 by omega)]
    obtain ⟨y',e⟩:=zrg y4 ps hp r (i+1) (zds l (zmy (enL l) p).1).1 A (k+1) h5 (by omega) (by omega) (by omega)
    exact ⟨y',by rw [e];rfl⟩
  ·have hb:((zmy (enL l) p).2 != 0)=true:=by rw [bne_iff_ne];exact h0
   rw [if_neg h0]
   simp only [hb,cond_true]
   exact ⟨_,rfl⟩
theorem zwl [Dfr] [zcd] [zdz] [zjx] (l:List Nd) (ps:List Int) (hl:l.length≤400000) (hp:ps.length≤1000000):zsy l ps=some (qdc l [] 0 ps):=by
 obtain ⟨y',e⟩:=zrg ([],[],0) ps hp ps 0 l [] 0 rfl hl (Nat.le_refl _) (Nat.le_refl _)
 rw [Int.natCast_zero] at e
 rw [qqs]
 simp only [zin l (by omega),Option.bind_some,e]
def qep (r:List Nd×Tc):Tc×Bool:=match r.1 with
 |[n]=>if n.1=11 then ((r.2.1,n.2.2),true) else (([],0),false)
 |_=>(([],0),false)
theorem zsw [Dfr] (r:List Nd×Tc) (hA:r.2.1.length≤1000000):zpx r=some (qep r):=by
 obtain ⟨l,A,z⟩:=r
 rw [qnn,zos,Option.bind_some]
 unfold qep
 match l with
 |[]=>rfl
 |[n] =>
  simp only
  by_cases h:n.1=11
  ·rw [if_pos h,if_pos h]
   simp only [Bool.not_true,cond_false,zju A (by simp only at hA;omega),Option.bind_some]
  ·rw [if_neg h,if_neg h];rfl
 |_::_::_=>rfl
theorem qvq [Dfr] (l:List Nd) (hl:l.length≤4611686018427387904):qhe l=some (decide (l.length≤100∧dep l≤24)):=by
 rw [qsh]
 by_cases h:l.length≤100
 ·have h1:decide ((l.length:Int)≤100)=true:=decide_eq_true (by omega)
  simp only [h1,cond_true,qnx l hl,Option.bind_some]
  congr 1
  by_cases h2:dep l≤24
  ·rw [decide_eq_true (show (dep l:Int)≤24 by omega),decide_eq_true ⟨h,h2⟩]
  ·rw [decide_eq_false (show ¬(dep l:Int)≤24 by omega),decide_eq_false fun h3=>h2 h3.2]
 ·have h1:decide ((l.length:Int)≤100)=false:=decide_eq_false (by omega)
  rw [h1,cond_false,decide_eq_false fun h3=>h h3.1]
theorem qju [Dfr] (l:List Nd) (hl:l.length≤4611686018427387904):zti l=some (decide ((l.length≤100∧dep l≤24)∧cntW l≤8)):=by
 rw [qhd,qvq l hl,Option.bind_some]
 by_cases h:l.length≤100∧dep l≤24
 ·rw [decide_eq_true h,cond_true,zrj l [1,6,4,10] (by omega) (by decide),Option.bind_some]
  have e:l.countP (fun x=>decide (x.1∈[1,6,4,10]))=cntW l:=by
   unfold cntW
   refine List.countP_congr fun x _=> ?_
   unfold zcp
   simp
  rw [e]
  congr 1
  by_cases h2:cntW l≤8
  ·rw [decide_eq_true (show (cntW l:Int)≤8 by omega),decide_eq_true ⟨h,h2⟩]
  ·rw [decide_eq_false (show ¬(cntW l:Int)≤8 by omega),decide_eq_false fun h3=>h2 h3.2]
 ·rw [decide_eq_false h,cond_false,decide_eq_false fun h3=>h h3.1]
end Go.Proofs.YtjolkdjkhekbnaaGreatDoor.Sv
