/- The picks of a trace. -/
import Derived.Test.YtjolkdjkhekbnaaGreatDoorX25
set_option linter.unusedVariables false
set_option linter.unusedSimpArgs false
namespace Go.Proofs.YtjolkdjkhekbnaaGreatDoor.Sv
open Go Go.Sv Go.Rd
def zlr (t:Tc) (nm:ByteArray):Tc×Bool:=
 if nm=(⟨#[]⟩:ByteArray) then (t,true) else match t.1 with
 |[]=>(t,false)
 |a::r=>if a=nm then ((r,t.2),true) else (t,false)
theorem ysr [Dfr] {t:Tc} {nm:ByteArray} {L:List Tc}:t∈zmx nm L↔(zlr t nm).2=true∧(zlr t nm).1∈L:=by
 obtain ⟨A,s⟩:=t;unfold zmx zlr;rw [List.mem_map];by_cases h:nm=(⟨#[]⟩:ByteArray)
 ·simp only [h,if_true,List.nil_append,true_and];constructor
  ·rintro ⟨x,hx,e⟩;rw [←e];exact hx
  ·intro hx;exact ⟨_,hx,rfl⟩
 ·simp only [if_neg h];cases A with
  |nil=>
   constructor
   ·rintro ⟨x,hx,e⟩;have:=congrArg Prod.fst e;simp at this
   ·rintro ⟨h,_⟩;cases h
  |cons a r=>
   by_cases ha:a=nm
   ·subst ha;simp only [if_true,true_and];constructor
    ·rintro ⟨x,hx,e⟩;obtain ⟨X,y⟩:=x;simp only [List.cons_append,List.nil_append,Prod.mk.injEq,List.cons.injEq,true_and] at e;obtain ⟨rfl,rfl⟩:=e;exact hx
    ·intro hx;exact ⟨_,hx,rfl⟩
   ·simp only [if_neg ha,Bool.false_eq_true,false_and,iff_false];rintro ⟨x,hx,e⟩;have:=congrArg Prod.fst e;simp only [List.cons_append,List.nil_append,List.cons.injEq] at this;exact ha this.1.symm
theorem qqi [Dfr] {t:Tc} {nm:ByteArray}:(zlr t nm).1.1.length≤t.1.length:=by
 unfold zlr;split
 ·exact Nat.le_refl _
 ·split
  ·exact Nat.le_refl _
  ·rename_i h;split
   ·rw [h];simp
   ·rw [h];exact Nat.le_refl _
theorem qpx [Dfr] (t:Tc) (nm:ByteArray) (ht:t.1.length≤1000000000):qgx t nm=some (zlr t nm):=by
 obtain ⟨A,s⟩:=t;rw [qlf];unfold zlr;by_cases h:nm=(⟨#[]⟩:ByteArray)
 ·subst h;rw [if_pos rfl,beq_self_eq_true];rfl
 ·have h1:(nm.toList==(⟨#[]⟩:ByteArray).toList)=false:=by rw [Bool.eq_false_iff];intro e;exact h (toList_inj (eq_of_beq e))
  rw [h1,cond_false,if_neg h];cases A with
  |nil=>rfl
  |cons a r=>
   have h2:(((a::r).length:Int)==0)=false:=by simp;omega
   have h3:zaa 0 (a::r).length=true:=by simp [zaa]
   have h4:zaw 1 ((a::r).length:Int) (a::r).length=true:=by simp [zaw];omega
   simp only [h2,cond_false,h3,cond_true,h4];by_cases ha:a=nm
   ·subst ha;have h5:(ix (a::r) 0).toList==a.toList:=by simp [ix]
    rw [h5];simp only [Bool.not_true,cond_false,if_true]
    congr 2
    simp [cut]
   ·have h5:((ix (a::r) 0).toList==nm.toList)=false:=by rw [Bool.eq_false_iff];intro e;exact ha (toList_inj (by simpa [ix] using eq_of_beq e))
    rw [h5,if_neg ha];rfl
def hitR (l:List Nd) (t:Tc) (mv:Mv):Prop:=(zlr t (zdc l mv).2.1).2=true∧(zlr t (zdc l mv).2.1).1∈trL (zdc l mv).1
noncomputable def hitB (l:List Nd) (t:Tc) (mv:Mv):Bool:= @decide (hitR l t mv) (Classical.propDecidable _)
theorem zxp [Dfr] {l:List Nd} {t:Tc} {mv:Mv}:hitB l t mv=true↔hitR l t mv:= @decide_eq_true_iff _ (Classical.propDecidable _)
theorem ymn [Dfr] {n:Tm} (h:Good n) {mv:Mv} (hm:mv∈enL n.row) (t:Tc):hitR n.row t mv↔t∈zyw n.row mv:=by obtain ⟨n',e1,_,hg,_,e2,_,_⟩:=zvx h hm;unfold hitR;rw [e2,ysr,e1,zge hg]
theorem xen [Dfr] {n:Tm} (h:Good n) (ho:n.zjb=false) {t:Tc}:t∈n.tr↔∃mv∈enL n.row,hitR n.row t mv:=by
 rw [←qyh h.set h.2.2.1 h.2.2.2 ho t,List.mem_flatMap];constructor
 ·rintro ⟨mv,hm,hx⟩;exact ⟨mv,hm,(ymn h hm t).2 hx⟩
 ·rintro ⟨mv,hm,hx⟩;exact ⟨mv,hm,(ymn h hm t).1 hx⟩
noncomputable def zyk (l:List Nd) (t:Tc):Option Nat:=(enL l).findIdx? (hitB l t)
noncomputable def picks:Nat→List Nd→Tc→List Int
 |0,_,_=>[]
 |c+1,l,t=>match zyk l t with
  |none=>[]
  |some k=>(k:Int)::picks c (zdc l ((enL l).getD k default)).1 (zlr t (zdc l ((enL l).getD k default)).2.1).1
theorem ytt [Dfr] (s:Int):enL (Tm.over s).row=[]:=by have h:=yjz (Tm.over s).row;have e:cntW (Tm.over s).row=0:=rfl;rw [e] at h;exact List.eq_nil_of_length_eq_zero (by omega)
theorem qbw [Dfr] (c:Nat) (s:Int) (t:Tc):picks c (Tm.over s).row t=[]:=by
 cases c with
 |zero=>rfl
 |succ c=>
  have h:enL (Tm.over s).row=[]:=ytt s;have h2:zyk (Tm.over s).row t=none:=by unfold zyk;rw [h];rfl
  unfold picks;rw [h2]
theorem yvj [Dfr] {l:List Nd} {t:Tc} {k:Nat} (hk:k<(enL l).length) (h1:hitR l t (enL l)[k]) (h0:∀j,(hj:j<k)→¬hitR l t ((enL l)[j]'(by omega))):zyk l t=some k:=by unfold zyk;rw [List.findIdx?_eq_some_iff_getElem];refine ⟨hk,zxp.2 h1,fun j hj=> ?_⟩;intro h;exact h0 j hj (zxp.1 h)
theorem yas [Dfr] {l:List Nd} {t:Tc} {k c:Nat} (hk:k<(enL l).length) (h1:hitR l t (enL l)[k]) (h0:∀j,(hj:j<k)→¬hitR l t ((enL l)[j]'(by omega))):
 picks (c+1) l t=(k:Int)::picks c (zdc l (enL l)[k]).1 (zlr t (zdc l (enL l)[k]).2.1).1:=by
 have e:(enL l).getD k default=(enL l)[k]:=by rw [List.getD_eq_getElem?_getD,List.getElem?_eq_getElem hk];rfl
 show (match zyk l t with|none=>[]|some k=>_)=_;rw [yvj hk h1 h0];simp only [e]
noncomputable def znl (l:List Nd) (t:Tc):List Int×Bool:=
 match @decide (chkR l=0∧t∈trL l) (Classical.propDecidable _) with
 |true=>(picks (cntW l+1) l t,true)
 |false=>([],false)
theorem qik [Dfr] {l:List Nd} {t:Tc} (h:chkR l=0∧t∈trL l):znl l t=(picks (cntW l+1) l t,true):=by unfold znl;rw [@decide_eq_true _ (Classical.propDecidable _) h]
theorem qil [Dfr] {l:List Nd} {t:Tc} (h:¬(chkR l=0∧t∈trL l)):znl l t=([],false):=by unfold znl;rw [@decide_eq_false _ (Classical.propDecidable _) h]
noncomputable def zvy (l:List Nd) (t:Tc):Option (List Int×Bool):=if l.length≤1000000∧cntW l≤8∧t.1.length≤1000000 then some (znl l t) else none
class qfs [Dfr]:Prop where
 find:∀l t,znq l t=zvy l t
theorem yzm [Dfr] {n:Nd} (h:right n=true):n.2.1.size≤8:=by
 unfold right at h;split at h
 ·simp only [Bool.and_eq_true,decide_eq_true_eq,qmx] at h;exact h.1.2.1
 ·split at h
  ·simp only [Bool.and_eq_true,decide_eq_true_eq] at h;rw [h.1];decide
  ·simp only [Bool.and_eq_true,decide_eq_true_eq] at h;rw [h.2.1];decide
theorem ybl [Dfr] {m:Tm} (h:m.fine):∀n∈m.row,n.2.1.size≤9223372036854775807:=fun n hn=>Nat.le_trans (yzm (zjm h n hn)) (by decide)
theorem yua [Dfr] (l:List Nd) (m:Mv):(zdc l m).1.length≤200:=by
 unfold zdc;split
 ·exact qed _
 ·simp
noncomputable def qmw:List Nd→List ByteArray→Int→List Int→List Nd×Tc
 |l,A,n,[]=>(l,A,n)
 |l,A,n,p::r=>if (zrj (enL l) p).2=0 then qmw (zdc l (zrj (enL l) p).1).1 (if (zrj (enL l) p).1.2=1 then A++[(zdc l (zrj (enL l) p).1).2.1] else A) (n+1) r else (l,A,n)
theorem zwu [Dfr] [zcd] [zdi] [zji] (y4:List Nd×Tc) (ps:List Int) (hp:ps.length≤1000000):∀(r:List Int) (i:Nat) (l:List Nd) (A:List ByteArray) (k:Nat),ps.drop i=r→l.length≤400000→A.length≤i→k≤i→
 ∃y4',zof y4 (l,A,(k:Int)) ps (ps.length:Int) (i:Int)=some (0,(y4',qmw l A (k:Int) r))
 |[],i,l,A,k,h,hl,hA,hk=>by obtain ⟨h1,h2⟩:=drop_nil h;rw [zzh];simp only [h2,cond_false];exact ⟨_,rfl⟩
 |p::r,i,l,A,k,h,hl,hA,hk=>by
  obtain ⟨h1,h2,h3,h4,h5,h6⟩:=zab h;rw [zzh];simp only [h2,h3,h4,cond_true,yjf l p (by omega),Option.bind_some];unfold qmw;by_cases h0:(zrj (enL l) p).2=0
  ·have hb:((zrj (enL l) p).2 != 0)=false:=by rw [h0];rfl
   rw [if_pos h0];simp only [hb,cond_false,qdy l _ (show l.length≤400000 from hl),Option.bind_some];have hnl:=yua l (zrj (enL l) p).1;have hw:w64 ((k:Int)+1)=((k+1:Nat):Int):=zar (by omega);by_cases h1:(zrj (enL l) p).1.2=1
   ·have hb1:((zrj (enL l) p).1.2==1)=true:=by rw [h1];rfl
    rw [if_pos h1];simp only [hb1,cond_true,hw,room (show (A.length+1)*16≤140737488355328 by omega),zar (show i<9223372036854775807 by omega)];obtain ⟨y',e⟩:=zwu y4 ps hp r (i+1) (zdc l (zrj (enL l) p).1).1 (A++[(zdc l (zrj (enL l) p).1).2.1]) (k+1) h5 (by omega) (by simp;omega) (by omega);exact ⟨y',by rw [e];rfl⟩
   ·have hb1:((zrj (enL l) p).1.2==1)=false:=by rw [Bool.eq_false_iff];intro e;exact h1 (eq_of_beq e)
    rw [if_neg h1];simp only [hb1,cond_false,hw,zar (show i<9223372036854775807 by omega)];obtain ⟨y',e⟩:=zwu y4 ps hp r (i+1) (zdc l (zrj (enL l) p).1).1 A (k+1) h5 (by omega) (by omega) (by omega);exact ⟨y',by rw [e];rfl⟩
  ·have hb:((zrj (enL l) p).2 != 0)=true:=by rw [bne_iff_ne];exact h0
   rw [if_neg h0];simp only [hb,cond_true];exact ⟨_,rfl⟩
theorem qee [Dfr] [zcd] [zdi] [zji] (l:List Nd) (ps:List Int) (hl:l.length≤400000) (hp:ps.length≤1000000):zzi l ps=some (qmw l [] 0 ps):=by obtain ⟨y',e⟩:=zwu ([],[],0) ps hp ps 0 l [] 0 rfl hl (Nat.le_refl _) (Nat.le_refl _);rw [Int.natCast_zero] at e;rw [ydk];simp only [zlk l (by omega),Option.bind_some,e]
def qom (r:List Nd×Tc):Tc×Bool:=match r.1 with
 |[n]=>if n.1=11 then ((r.2.1,n.2.2),true) else (([],0),false)
 |_=>(([],0),false)
theorem zzg [Dfr] (r:List Nd×Tc) (hA:r.2.1.length≤1000000):zva r=some (qom r):=by
 obtain ⟨l,A,z⟩:=r;rw [qzc,znp,Option.bind_some];unfold qom
 match l with
 |[]=>rfl
 |[n]=>
  simp only;by_cases h:n.1=11
  ·rw [if_pos h,if_pos h];simp only [Bool.not_true,cond_false,zmv A (by simp only at hA;omega),Option.bind_some]
  ·rw [if_neg h,if_neg h];rfl
 |_::_::_=>rfl
theorem yjq [Dfr] (l:List Nd) (hl:l.length≤4611686018427387904):qrw l=some (decide (l.length≤100∧dep l≤24)):=by
 rw [yfr];by_cases h:l.length≤100
 ·have h1:decide ((l.length:Int)≤100)=true:=decide_eq_true (by omega);simp only [h1,cond_true,yal l hl,Option.bind_some]
  congr 1
  by_cases h2:dep l≤24
  ·rw [decide_eq_true (show (dep l:Int)≤24 by omega),decide_eq_true ⟨h,h2⟩]
  ·rw [decide_eq_false (show ¬(dep l:Int)≤24 by omega),decide_eq_false fun h3=>h2 h3.2]
 ·have h1:decide ((l.length:Int)≤100)=false:=decide_eq_false (by omega);rw [h1,cond_false,decide_eq_false fun h3=>h h3.1]
theorem qdj [Dfr] (l:List Nd) (hl:l.length≤4611686018427387904):zsz l=some (decide ((l.length≤100∧dep l≤24)∧cntW l≤8)):=by
 rw [qrv,yjq l hl,Option.bind_some];by_cases h:l.length≤100∧dep l≤24
 ·rw [decide_eq_true h,cond_true,qei l [1,6,4,10] (by omega) (by decide),Option.bind_some];have e:l.countP (fun x=>decide (x.1∈[1,6,4,10]))=cntW l:=by
   unfold cntW;refine List.countP_congr fun x _=> ?_
   unfold zdo;simp
  rw [e]
  congr 1
  by_cases h2:cntW l≤8
  ·rw [decide_eq_true (show (cntW l:Int)≤8 by omega),decide_eq_true ⟨h,h2⟩]
  ·rw [decide_eq_false (show ¬(cntW l:Int)≤8 by omega),decide_eq_false fun h3=>h2 h3.2]
 ·rw [decide_eq_false h,cond_false,decide_eq_false fun h3=>h h3.1]
def g0:Tm:=.par (.act ⟨#[97]⟩) .yield
def g1:Tm:=.par (.over 1) .yield
theorem xih [Dfr]:g0.tr=[([⟨#[97]⟩],1),([⟨#[97]⟩],3)]:=by decide +kernel
theorem xkj [Dfr]:g1.tr=[([],1),([],3)]:=by decide +kernel
theorem xiw [Dfr]:setL g0.row:=qgf (by simp only [g0,Tm.fine,Tm.good];decide) (by decide) (by decide) (by unfold g0;rw [Tm.zob,Tm.zyx,Tm.zkq];rfl)
theorem xdd [Dfr]:setL g1.row:=qgf (by simp only [g1,Tm.fine,Tm.good];decide) (by decide) (by decide) (by unfold g1;rw [Tm.zob,Tm.zgf,Tm.zkq];rfl)
theorem ypk [Dfr]:enL g0.row=[(1,1),(2,4),(2,5)]:=by rw [qmi (show tree g0.row=some g0.t from zpn (Tm.t_ok g0)) xiw];unfold mvsT;rw [show g0.t.wts 0=[1,2] by decide];rfl
theorem ygf [Dfr]:enL g1.row=[(2,4),(2,5)]:=by rw [qmi (show tree g1.row=some g1.t from zpn (Tm.t_ok g1)) xdd];unfold mvsT;rw [show g1.t.wts 0=[2] by decide];rfl
theorem yaw [Dfr]:zdc g0.row (1,1)=(g1.row,⟨#[97]⟩,0):=by
 unfold zdc;rw [if_pos (by rw [ypk];decide)];have e:putR g0.row ((1,1):Mv).1 (zkz (g0.row.drop ((1,1):Mv).1.toNat) ((1,1):Mv).2)=g1.row:=by decide
 rw [e,xdd.2];rfl
theorem xgx [Dfr]:zdc g1.row (2,4)=((Tm.over 1).row,⟨#[]⟩,0):=by
 unfold zdc;rw [if_pos (by rw [ygf];decide)];have e:putR g1.row ((2,4):Mv).1 (zkz (g1.row.drop ((2,4):Mv).1.toNat) ((2,4):Mv).2)=(Tm.par (.over 1) (.over 1)).row:=by decide
 rw [e,zqz (by simp only [Tm.fine,Tm.good];decide) (by decide) (by decide),Tm.zob,Tm.zgf];rfl
theorem yjc [Dfr]:zdc g1.row (2,5)=((Tm.over 3).row,⟨#[]⟩,0):=by
 unfold zdc;rw [if_pos (by rw [ygf];decide)];have e:putR g1.row ((2,5):Mv).1 (zkz (g1.row.drop ((2,5):Mv).1.toNat) ((2,5):Mv).2)=(Tm.par (.over 1) (.over 3)).row:=by decide
 rw [e,zqz (by simp only [Tm.fine,Tm.good];decide) (by decide) (by decide),Tm.zob,Tm.zgf,Tm.zgf];rfl
theorem ybi [Dfr]:Good g0:=⟨by simp only [g0,Tm.fine,Tm.good];decide,by unfold g0;rw [Tm.zob,Tm.zyx,Tm.zkq];rfl,by decide,by unfold Tm.small;decide⟩
theorem xgr [Dfr]:qmw g0.row [] 0 [0,1,7]=((Tm.over 3).row,[⟨#[97]⟩],2):=by
 have p0:zrj (enL g0.row) 0=((1,1),0):=by rw [ypk];rfl
 have p1:zrj (enL g1.row) 1=((2,5),0):=by rw [ygf];rfl
 have p2:zrj (enL (Tm.over 3).row) 7=((0,0),120):=by rw [ytt];rfl
 simp only [qmw,p0,p1,p2,yaw,yjc,if_true,if_pos,List.nil_append];rfl
theorem xao [Dfr]:qmw g0.row [] 0 [0]=(g1.row,[⟨#[97]⟩],1):=by
 have p0:zrj (enL g0.row) 0=((1,1),0):=by rw [ypk];rfl
 simp only [qmw,p0,yaw,if_true,if_pos,List.nil_append];rfl
theorem xcg [Dfr]:chkR [(2,ByteArray.empty,0)]=1:=by
 have e:zbl Tm.skip.row=(Tm.over 1).row:=by rw [zqz (by simp only [Tm.fine,Tm.good]) (by decide) (by decide),Tm.zti]
 unfold chkR;split
 ·rw [if_neg];rintro ⟨_,h⟩;have h2:zbl Tm.skip.row=Tm.skip.row:=h;rw [e] at h2;revert h2;decide
 ·rfl
theorem xap [Dfr]:znl g0.row ([⟨#[97]⟩],3)=([0,1],true):=by
 have hm:([⟨#[97]⟩],3)∈g0.tr:=by rw [xih];decide
 rw [qik ⟨qnv ybi,by rw [zge ybi];exact hm⟩];have hc:cntW g0.row=2:=by decide
 rw [hc];have g1f:trL g1.row=[([],1),([],3)]:=by rw [qoo (by simp only [g1,Tm.fine,Tm.good];decide) (by decide),xkj]
 have ov1:trL (Tm.over 1).row=[([],1)]:=qoo (by simp only [Tm.fine,Tm.good];decide) (by decide);have ov3:trL (Tm.over 3).row=[([],3)]:=qoo (by simp only [Tm.fine,Tm.good];decide) (by decide);have r0:zlr ([⟨#[97]⟩],3) ⟨#[97]⟩=(([],3),true):=by decide
 have r1:zlr ([],3) ⟨#[]⟩=(([],3),true):=by decide
 have k0:(enL g0.row)[0]'(by rw [ypk];decide)=(1,1):=by simp only [ypk];rfl
 have k1:(enL g1.row)[0]'(by rw [ygf];decide)=(2,4):=by simp only [ygf];rfl
 have k2:(enL g1.row)[1]'(by rw [ygf];decide)=(2,5):=by simp only [ygf];rfl
 have h0:hitR g0.row ([⟨#[97]⟩],3) (1,1):=by unfold hitR;rw [yaw,r0,g1f];decide
 have h1:¬hitR g1.row ([],3) (2,4):=by unfold hitR;rw [xgx,r1,ov1];decide
 have h2:hitR g1.row ([],3) (2,5):=by unfold hitR;rw [yjc,r1,ov3];decide
 have e0:=yas (c:=2) (l:=g0.row) (t:=([⟨#[97]⟩],3)) (k:=0) (by rw [ypk];decide) (by rw [k0];exact h0) (fun j hj=>absurd hj (Nat.not_lt_zero _));have e1:=yas (c:=1) (l:=g1.row) (t:=([],3)) (k:=1) (by rw [ygf];decide) (by rw [k2];exact h2) (fun j hj=>by
  obtain rfl:j=0:=by omega
  rw [k1];exact h1)
 rw [k0,yaw,r0] at e0;rw [k2,yjc,r1] at e1;rw [e0];show (_,true)=_;rw [e1,qbw];rfl
theorem zjr [Dfr] [zcd] [zdi] [zji] [qmm] [qfs]:zja=some true:=by
 have eg:([(7,ByteArray.empty,0),(1,⟨#[97]⟩,0),(4,ByteArray.empty,0)]:List Nd)=g0.row:=rfl;have a0:zwv g0.row=some (g0.tr,0):=by rw [qef,qmm.all];unfold zya allR;rw [if_pos ⟨by decide,by decide⟩,qnv ybi,if_pos rfl,zge ybi]
 have a1:zwv [(2,ByteArray.empty,0)]=some ([],1):=by rw [qef,qmm.all];unfold zya allR;rw [if_pos ⟨by decide,by decide⟩,xcg,if_neg (by decide)]
 have f0:zzj g0.row ([⟨#[97]⟩],3)=some ([0,1],true):=by rw [qlg,qfs.find];unfold zvy;rw [if_pos ⟨by decide,by decide,by decide⟩,xap]
 have t0:qom ((Tm.over 3).row,[⟨#[97]⟩],2)=(([⟨#[97]⟩],3),true):=rfl;have t1:qom (g1.row,[⟨#[97]⟩],1)=(([],0),false):=rfl;have x0:qje ([⟨#[97]⟩],3)=some ⟨#[97,32,63]⟩:=((qto _).iff _).2 ⟨40,by kernel_rfl⟩;have i0:zvf [0,1] [0,1]=some true:=by rw [qlp _ _ (by decide),decide_eq_true rfl]
 rw [qvb,eg];simp only [qee _ _ (show g0.row.length≤400000 by decide) (show ([0,1,7]:List Int).length≤1000000 by decide),qee _ _ (show g0.row.length≤400000 by decide) (show ([0]:List Int).length≤1000000 by decide),xgr,xao,Option.bind_some,
  zzg _ (show ((Tm.over 3).row,([⟨#[97]⟩]:List ByteArray),(2:Int)).2.1.length≤1000000 by decide),zzg _ (show (g1.row,([⟨#[97]⟩]:List ByteArray),(1:Int)).2.1.length≤1000000 by decide),t0,t1,a0,a1,f0,x0,i0,xih,beq_self_eq_true,cond_true]
 rfl
theorem xcm [Dfr] {l:List Nd} (hl:yqu l):l.length≤4611686018427387904:=Nat.le_trans hl.1 (by decide)
theorem ynx [Dfr] [qmm] (l:List Nd) (hl:l.length≤1000000) (h8:cntW l≤8):zwv l=some (allR l):=by rw [qef,qmm.all];unfold zya;rw [if_pos ⟨hl,h8⟩]
theorem yhv [Dfr] [qfs] (l:List Nd) (t:Tc) (hl:l.length≤1000000) (h8:cntW l≤8) (ht:t.1.length≤1000000):zzj l t=some (znl l t):=by rw [qlg,qfs.find];unfold zvy;rw [if_pos ⟨hl,h8,ht⟩]
theorem ybh [Dfr] {n:Tm} (h:Good n):zcg n.row=some n.tr:=(zrb n h.2.2.2).1 h.2.2.1
theorem yif [Dfr] (l:List Nd) (hl:l.length≤1000000) (hn:∀n∈l,n.2.1.size≤9223372036854775807):qqk l=some (allR l):=by
 rw [ydz,qgz l hl hn,Option.bind_some];unfold allR;by_cases h:chkR l=0
 ·obtain ⟨n,rfl,hg⟩:=qch h;rw [if_pos h,h,zge hg];simp only [bne_self_eq_false,cond_false,ybh hg,Option.bind_some]
 ·have hb:(chkR l != 0)=true:=by rw [bne_iff_ne];exact h
  rw [if_neg h,hb];rfl
theorem xck [Dfr] {l:List Nd} (h8:cntW l≤8):zgq (allR l).1∧(allR l).1.length≤11000000:=by
 unfold allR;split
 ·rename_i h;obtain ⟨n,rfl,hg⟩:=qch h;rw [zge hg];exact ⟨fewT.short fun x hx=>Nat.le_trans (zbm hg.2.2.2 x hx) (by decide),qon hg h8⟩
 ·exact ⟨fewT.short fun x hx=>(by cases hx),Nat.zero_le _⟩
theorem zta [Dfr] [zcd] [zdi] [zji] [qmm] [qfs] (l:List Nd) (hl:yqu l):qia l=some true:=by
 rw [qnb,qdj l (xcm hl),Option.bind_some];by_cases hf:(l.length≤100∧dep l≤24)∧cntW l≤8
 ·obtain ⟨h1,h2⟩:=xck hf.2;rw [decide_eq_true hf];simp only [Bool.not_true,cond_false,ynx l (by omega) hf.2,yif l (by omega) hl.names,zjr,Option.bind_some,cond_true,yfs (allR l).1 (by omega),yel (allR l).1 (allR l).1 (by omega) h1 h1,decide_true,beq_self_eq_true]
 ·rw [decide_eq_false hf];simp only [Bool.not_false,cond_true,zjr,Option.bind_some]
def EndT (n:Tm):Prop:=n.fine∧n.st=n∧n.po=true∧n.okB=true∧n.size≤200
theorem EndT.set [Dfr] {n:Tm} (h:EndT n):setL n.row:=qgf h.1 h.2.2.2.2 (.inl h.2.2.1) h.2.1
theorem ynj [Dfr] (n:Tm) (A:List ByteArray) (z:Int):qom (n.row,A,z)=match n with| .over s=>((A,s),true)|_=>(([],0),false):=by
 have e:=(znp n.row).symm.trans (zfq n);have e2:=Option.some.inj e;unfold qom;simp only;revert e2;generalize n.row=l;intro e2
 match l,e2 with
 |[],e2=>simp only at e2 ⊢;cases n<;>first|rfl|(cases e2)
 |[x],e2=>
  simp only at e2 ⊢;by_cases h:x.1=11
  ·rw [if_pos h] at e2 ⊢;cases n<;>first|(cases e2;done)|(have:=congrArg Prod.fst e2;simp only at this;subst this;rfl)|(have:=congrArg Prod.snd e2;cases this)
  ·rw [if_neg h] at e2 ⊢;cases n<;>first|rfl|(have:=congrArg Prod.snd e2;cases this)
 |_::_::_,e2=>simp only at e2 ⊢;cases n<;>first|rfl|(have:=congrArg Prod.snd e2;cases this)
theorem qll [Dfr] (t:Tc) (how:Int) (nm:ByteArray) (ht:t.1.length≤1000000000) (hh:decide (nm=⟨#[]⟩)= !decide (how=1)):zqi t how nm=some (zlr t nm):=by
 have e:=qpx t nm ht;rw [qlf] at e;rw [qzk];by_cases h:how=1
 ·have hb:(how != 1)=false:=by rw [h];rfl
  have hn:¬nm=(⟨#[]⟩:ByteArray):=by rw [decide_eq_true h] at hh;exact of_decide_eq_false hh
  have hb2:(nm.toList==(⟨#[]⟩:ByteArray).toList)=false:=by rw [str_eq,decide_eq_false hn]
  rw [hb2,cond_false] at e;rw [hb,cond_false];exact e
 ·have hb:(how != 1)=true:=by rw [bne_iff_ne];exact h
  have hn:nm=(⟨#[]⟩:ByteArray):=by rw [decide_eq_false h] at hh;exact of_decide_eq_true hh
  rw [hb,cond_true];unfold zlr;rw [if_pos hn]
theorem zzo [Dfr] [zcd] [zdi] [zji] {n:Tm} (hg:Good n) (t:Tc) (ht:t.1.length≤1000000) (y4:Int):∀(r:List Mv) (i:Nat),(enL n.row).drop i=r→
 zkh n.row t y4 (enL n.row) (i:Int)=some (match r.findIdx? (hitB n.row t) with|none=>(0,y4)|some j=>(1,((i+j:Nat):Int)))
 |[],i,h=>by obtain ⟨h1,h2⟩:=drop_nil h;rw [zve];simp only [h2,cond_false];rfl
 |mv::r,i,h=>by
  obtain ⟨h1,h2,h3,h4,h5,h6⟩:=zab h;have hL:=qkg n.row;have hlen:=hg.len;have hm:mv∈enL n.row:=List.mem_of_mem_drop (by rw [h];exact List.mem_cons_self ..);obtain ⟨n',e1,_,hg',hc,_,_,_⟩:=zvx hg hm;obtain ⟨_,_,_,hnm⟩:=qao hm;have hrl:=qqi (t:=t) (nm:=(zdc n.row mv).2.1);have hsh:zgq n'.tr:=fewT.short fun x hx=>Nat.le_trans (zbm hg'.2.2.2 x hx) (by decide)
  have hln:=(zii hg'.2.2.2).1;have ih:=zzo hg t ht y4 r (i+1) h5;rw [zve];simp only [h2,h3,h4,cond_true,qlm n.row mv (by omega) (ybl hg.1),Option.bind_some,qll t mv.2 (zdc n.row mv).2.1 (by omega) hnm];rw [List.findIdx?_cons];have hw:w64 ((i:Int)+1)=((i+1:Nat):Int):=zar (by omega);cases hb:(zlr t (zdc n.row mv).2.1).2 with
  |false=>
   have hno:hitB n.row t mv=false:=by rw [Bool.eq_false_iff];intro h;have:=(zxp.1 h).1;rw [hb] at this;cases this
   rw [cond_false,hw,ih,hno];cases r.findIdx? (hitB n.row t) with
   |none=>rfl
   |some j=>simp only [Bool.false_eq_true,if_false,Option.map_some,show i+1+j=i+(j+1) by omega]
  |true=>
   simp only [cond_true,e1,ybh hg',Option.bind_some,qqx n'.tr (zlr t (zdc n.row mv).2.1).1 (by omega) hsh (by omega)];by_cases hx:(zlr t (zdc n.row mv).2.1).1∈n'.tr
   ·have hyes:hitB n.row t mv=true:=zxp.2 ⟨hb,by rw [e1,zge hg'];exact hx⟩;rw [decide_eq_true hx,cond_true,hyes];rfl
   ·have hno:hitB n.row t mv=false:=by rw [Bool.eq_false_iff];intro h;have:=(zxp.1 h).2;rw [e1,zge hg'] at this;exact hx this
    rw [decide_eq_false hx,cond_false,hw,ih,hno];cases r.findIdx? (hitB n.row t) with
    |none=>rfl
    |some j=>simp only [Bool.false_eq_true,if_false,Option.map_some,show i+1+j=i+(j+1) by omega]
theorem qzl [Dfr] [zcd] [zdi] [zji] {n:Tm} (hg:Good n) (t:Tc) (ht:t.1.length≤1000000):zrc n.row t=some (match zyk n.row t with|none=> -1|some k=>(k:Int)):=by
 have hlen:=hg.len;have e:=zzo hg t ht 0 (enL n.row) 0 rfl;rw [Int.natCast_zero] at e;rw [quc,zoz n.row (by omega) (ybl hg.1),Option.bind_some,e,Option.bind_some];show _=some (match (enL n.row).findIdx? (hitB n.row t) with|none=> -1|some k=>(k:Int));cases (enL n.row).findIdx? (hitB n.row t) with
 |none=>rfl
 |some k=>simp only [Nat.zero_add];rfl
theorem yms [Dfr] {n:Tm} (hg:Good n) (ho:n.zjb=false) {t:Tc} (ht:t∈n.tr):∃(k:Nat) (hk:k<(enL n.row).length) (n':Tm),zyk n.row t=some k∧(zdc n.row (enL n.row)[k]).1=n'.row∧Good n'∧cntW n'.row<cntW n.row∧
 (zlr t (zdc n.row (enL n.row)[k]).2.1).2=true∧(zlr t (zdc n.row (enL n.row)[k]).2.1).1∈n'.tr∧(decide ((zdc n.row (enL n.row)[k]).2.1=⟨#[]⟩)= !decide ((enL n.row)[k].2=1))∧
 ∀c,picks (c+1) n.row t=(k:Int)::picks c n'.row (zlr t (zdc n.row (enL n.row)[k]).2.1).1:=by
 cases hf:zyk n.row t with
 |none=>exfalso;obtain ⟨mv,h1,h2⟩:=(xen hg ho).1 ht;have:=(List.findIdx?_eq_none_iff.1 hf) mv h1;rw [zxp.2 h2] at this;cases this
 |some k=>
  obtain ⟨hk,hh,_⟩:=List.findIdx?_eq_some_iff_getElem.1 hf;have hm:(enL n.row)[k]∈enL n.row:=List.getElem_mem hk;obtain ⟨n',e1,_,hg',hc,_,_,_⟩:=zvx hg hm;obtain ⟨_,_,_,hnm⟩:=qao hm;obtain ⟨h1,h2⟩:=zxp.1 hh;rw [e1,zge hg'] at h2;refine ⟨k,hk,n',rfl,e1,hg',hc,h1,h2,hnm,fun c=> ?_⟩;have e:(enL n.row).getD k default=(enL n.row)[k]:=by rw [List.getD_eq_getElem?_getD,List.getElem?_eq_getElem hk];rfl
  show (match zyk n.row t with|none=>[]|some k=>_)=_;rw [hf];simp only [e,e1]
theorem yfb [Dfr]:∀(c:Nat) (l:List Nd) (t:Tc),(picks c l t).length≤c
 |0,_,_=>Nat.le_refl _
 |c+1,l,t=>by
  show (match zyk l t with|none=>[]|some k=>_:List Int).length≤_;cases zyk l t with
  |none=>exact Nat.zero_le _
  |some k=>simp only [List.length_cons];have:=yfb c (zdc l ((enL l).getD k default)).1 (zlr t (zdc l ((enL l).getD k default)).2.1).1;omega
theorem xaq [Dfr] {L:List Mv} {k:Nat} (hk:k<L.length):zrj L (k:Int)=(L[k],0):=by
 have hne:L≠[]:=fun h=>by rw [h] at hk;simp at hk
 unfold zrj;have e:yfc (k:Int) L.length=k:=by unfold yfc;rw [Int.tmod_eq_of_lt (by omega) (by omega),if_neg (by omega)];omega
 rw [if_neg hne,e,List.getD_eq_getElem?_getD,List.getElem?_eq_getElem hk];rfl
theorem yts [Dfr] {n:Tm} (h:n.zjb=true):∃s,n= .over s:=by cases n<;>first|exact ⟨_,rfl⟩|cases h
theorem yzn [Dfr] {t:Tc} {nm:ByteArray} (h:(zlr t nm).2=true):t.1=(if nm=(⟨#[]⟩:ByteArray) then [] else [nm])++(zlr t nm).1.1∧(zlr t nm).1.2=t.2:=by
 obtain ⟨A,s⟩:=t;unfold zlr at h ⊢;by_cases hn:nm=(⟨#[]⟩:ByteArray)
 ·simp [hn]
 ·simp only [if_neg hn] at h ⊢;cases A with
  |nil=>cases h
  |cons a r=>
   by_cases ha:a=nm
   ·simp [ha]
   ·simp only [if_neg ha] at h;cases h
theorem qwd [Dfr]:∀(c:Nat) (n:Tm) (t:Tc) (A:List ByteArray) (k:Int),Good n→t∈n.tr→cntW n.row<c→qmw n.row A k (picks c n.row t)=((Tm.over t.2).row,A++t.1,k+((picks c n.row t).length:Int))
 |0,_,_,_,_,_,_,h=>absurd h (Nat.not_lt_zero _)
 |c+1,n,t,A,k,hg,ht,hc=>by
  cases ho:n.zjb with
  |true=>obtain ⟨s,rfl⟩:=yts ho;have ht2:t∈([([],s)]:List Tc):=ht;obtain rfl:=List.mem_singleton.1 ht2;rw [qbw,qmw];simp
  |false=>
   obtain ⟨j,hj,n',hf,e1,hg',hcn,h1,h2,hnm,hp⟩:=yms hg ho ht;rw [hp c,qmw,xaq hj,if_pos rfl];have ih:=qwd c n' (zlr t (zdc n.row (enL n.row)[j]).2.1).1 (if (enL n.row)[j].2=1 then A++[(zdc n.row (enL n.row)[j]).2.1] else A) (k+1) hg' h2 (by omega);obtain ⟨r1,r2⟩:=yzn h1;simp only [e1];rw [ih,r2];have hA:(if (enL n.row)[j].2=1 then A++[(zdc n.row (enL n.row)[j]).2.1] else A)++(zlr t (zdc n.row (enL n.row)[j]).2.1).1.1=A++t.1:=by
    rw [r1];by_cases hw:(enL n.row)[j].2=1
    ·rw [decide_eq_true hw] at hnm;rw [if_pos hw,if_neg (of_decide_eq_false hnm),List.append_assoc]
    ·rw [decide_eq_false hw] at hnm;rw [if_neg hw,if_pos (of_decide_eq_true hnm),List.nil_append]
   rw [hA]
   congr 2
   simp only [List.length_cons];omega
theorem qcx [Dfr] [zcd] [zdi] [zji] (y4:List Int) (y5:Bool):∀(c:Nat) (n:Tm) (t:Tc) (out:List Int),Good n→t∈n.tr→t.1.length≤1000000→cntW n.row<c→out.length+cntW n.row≤1000000→zjo n.row t y4 y5 out=some (0,(out++picks c n.row t,true))
 |0,_,_,_,_,_,_,h,_=>absurd h (Nat.not_lt_zero _)
 |c+1,n,t,out,hg,ht,htl,hc,hout=>by
  cases ho:n.zjb with
  |true=>obtain ⟨s,rfl⟩:=yts ho;rw [qbw,List.append_nil,zyc];rfl
  |false=>
   obtain ⟨j,hj,n',hf,e1,hg',hcn,h1,h2,hnm,hp⟩:=yms hg ho ht;have hlen:=hg.len;have hrl:=qqi (t:=t) (nm:=(zdc n.row (enL n.row)[j]).2.1);have ih:=qcx y4 y5 c n' (zlr t (zdc n.row (enL n.row)[j]).2.1).1 (out++[(j:Int)]) hg' h2 (by omega) (by omega) (by rw [List.length_append];simp;omega);have e:=qzl hg t htl;rw [hf] at e;have hix:ix (enL n.row) (j:Int)=(enL n.row)[j]:=qar hj;have hcont:((zrc n.row t).bind fun r12=>bif (decide (r12<0)) then (some ((0:Nat),(([]:List Int),false))) else ((zhb n.row).bind fun r13=>bif (zaa r12 r13.length) then ((zqj n.row (ix r13 r12)).bind fun r14=>(zqi t ((ix r13 r12).2) r14.2.1).bind fun r15=>bif (zae (out.length+1) 8) then (zjo r14.1 r15.1 y4 y5 (out++([r12]))) else (none)) else (none)))=some (0,(out++picks (c+1) n.row t,true)):=by simp only [e,Option.bind_some,decide_eq_false (show ¬((j:Int)<0) by omega),cond_false,zoz n.row (by omega) (ybl hg.1),zoq hj,cond_true,hix,qlm n.row _ (show n.row.length≤400000 by omega) (ybl hg.1),qll t _ _ (show t.1.length≤1000000000 by omega) hnm,room (show (out.length+1)*8≤140737488355328 by omega),e1];rw [ih,hp c,List.append_assoc];rfl
   rw [zyc,hcont];by_cases h1l:((n.row.length:Int)==1)=true
   ·have hne:(ix n.row 0).1≠11:=by
     intro h11;have hl1:n.row.length=1:=by have:=eq_of_beq h1l;omega
     have e:=(znp n.row).symm.trans (zfq n);obtain ⟨x,hx⟩:∃x,n.row=[x]:=List.length_eq_one_iff.1 hl1;rw [hx] at e h11;have h12:x.1=11:=h11;simp only [if_pos h12] at e;have e2:=congrArg Prod.snd (Option.some.inj e);cases n<;>first|(cases ho;done)|(cases e2;done)
    have hb:((ix n.row 0).1==11)=false:=by rw [Bool.eq_false_iff];intro e;exact hne (eq_of_beq e)
    have hi:zaa 0 n.row.length=true:=by
     have hl1:n.row.length=1:=by have:=eq_of_beq h1l;omega
     rw [hl1];rfl
    rw [h1l,hb,hi];rfl
   ·rw [Bool.not_eq_true] at h1l;rw [h1l];rfl
theorem ydy [Dfr] [zcd] [zdi] [zji] (l:List Nd) (t:Tc) (hl:l.length≤1000000) (h8:cntW l≤8) (hn:∀n∈l,n.2.1.size≤9223372036854775807) (ht:t.1.length≤1000000):qjn l t=some (znl l t):=by
 rw [qzm,qgz l hl hn,Option.bind_some];by_cases h:chkR l=0
 ·obtain ⟨n,rfl,hg⟩:=qch h;have hsh:zgq n.tr:=fewT.short fun x hx=>Nat.le_trans (zbm hg.2.2.2 x hx) (by decide)
  have hln:=(zii hg.2.2.2).1;rw [h];simp only [bne_self_eq_false,cond_false,ybh hg,Option.bind_some,qqx n.tr t (by omega) hsh (by omega)];by_cases hx:t∈n.tr
  ·rw [qik ⟨h,by rw [zge hg];exact hx⟩,decide_eq_true hx,Bool.not_true,cond_false,qcx [] false (cntW n.row+1) n t [] hg hx ht (Nat.lt_succ_self _) (by simp;omega)];rfl
  ·rw [qil (fun h2=>hx (by rw [←zge hg];exact h2.2)),decide_eq_false hx];rfl
 ·have hb:(chkR l != 0)=true:=by rw [bne_iff_ne];exact h
  rw [qil (fun h2=>h h2.1),hb];rfl
theorem xce [Dfr] (t:Tc):cmpT t t= .eq:=(ordT.eq t t).2 rfl
theorem yvk [Dfr] (l:List Nd) (t:Tc) (h8:cntW l≤8):(znl l t).1.length≤9:=by
 unfold znl;split
 ·have:=yfb (cntW l+1) l t;simp only;omega
 ·simp
theorem ypj [Dfr] {l:List Nd} {t:Tc} (h:(znl l t).2=true):qmw l [] 0 (znl l t).1=((Tm.over t.2).row,t.1,((znl l t).1.length:Int)):=by
 by_cases h2:chkR l=0∧t∈trL l
 ·obtain ⟨n,rfl,hg⟩:=qch h2.1;have ht:t∈n.tr:=by rw [←zge hg];exact h2.2
  rw [qik h2];have:=qwd (cntW n.row+1) n t [] 0 hg ht (Nat.lt_succ_self _);rw [this];simp
 ·rw [qil h2] at h;cases h
theorem yni [Dfr] (s:Int) (A:List ByteArray) (z:Int):qom ((Tm.over s).row,A,z)=((A,s),true):=by rw [ynj]
theorem zrp [Dfr] [zcd] [zdi] [zji] [qmm] [qfs] (l:List Nd) (t:Tc) (hl:yqu l) (ht:(Ty.pair (.slice 9 .str) (.int .i64)).wf t):qdk l t=some true:=by
 rw [qjz,qdj l (xcm hl),Option.bind_some];by_cases hf:(l.length≤100∧dep l≤24)∧cntW l≤8
 ·rw [decide_eq_true hf,Bool.not_true,cond_false];by_cases h100:t.1.length≤100
  ·have hlen:=yvk l t hf.2;rw [decide_eq_false (show ¬(t.1.length:Int)>100 by omega),cond_false];simp only [yhv l t (by omega) hf.2 (by omega),ydy l t (by omega) hf.2 hl.names (by omega),Option.bind_some,qlp (znl l t).1 (znl l t).1 (by omega),decide_true,Bool.not_true,cond_false,beq_self_eq_true];cases hr:(znl l t).2 with
   |false=>simp only [Bool.not_false,cond_true,zjr,Option.bind_some]
   |true=>
    have hp:=ypj hr;simp only [Bool.not_true,cond_false,qee l (znl l t).1 (by omega) (by omega),Option.bind_some,hp,zzg ((Tm.over t.2).row,t.1,((znl l t).1.length:Int)) (by simp only;omega),yni,zjr,cond_true,beq_self_eq_true,
     zgl (t.1,t.2) t (by simp only;omega) (by omega),xce,ordN]
  ·rw [decide_eq_true (show (t.1.length:Int)>100 by omega)];simp only [cond_true,zjr,Option.bind_some]
 ·rw [decide_eq_false hf];simp only [Bool.not_false,cond_true,zjr,Option.bind_some]
open Go Go.Sv Go.Proofs Go.Rd Go.RowKit
set_option maxRecDepth 100000
attribute [local go_sem] Oper.semAt_some
theorem xij [Dfr] {P:Option Addr→Nat→World→Prop} {G:Prop} (T:Option Addr→Nat→World→Prop) (main:(∀s c w,P s c w→T s c w)→G) (tail:∀s c w,P s c w→T s c w):G:=main tail
theorem yyp [Dfr] {P:Program} {ops:Array Oper} {o:Oper} {a:Act} {w w':World} {K:Act→World→Prop} {Q:Exit→Act→World→Prop} {E:Prop} {v vx v':Value}
 (hg:o.guard=none) (s x:Operand) (t:TypeId) (hop:o.op=Op.call {callee:=Callee.builtin Builtin.append,args:= #[s,x],argTypes:= #[t,t]})
 (hs:a.eval s=v) (hx:a.eval x=vx) (hrun:(Builtin.append_ #[t,t] o.type #[v,vx]).run P w= .ok v' w') (hK:K (a.put o.dst v') w'):if Region.wanted o (yielded ops a.tmps)=true then Oper.wp P o a w K Q else E:=by
 have hw:Region.wanted o (yielded ops a.tmps)=true:=by simp [Region.wanted,hg]
 rw [if_pos hw];unfold Oper.wp;simp [execOp,hop,resolve,invoke,builtin,hs,hx,hrun,Result.andThen];exact hK
theorem xjk [Dfr] {G:Nat→Prop} {w:World} (n:Int) (hG:¬G w.heap.size):Cl G (w.alloc (.cells #[.int .i64 n] 3)) (.slice 3 (.int .i64)) [n] [.slice (some ⟨w.heap.size,0,none⟩) 1 1]:=by
 rw [Cl];refine ⟨_,1,rfl,Nat.le_refl _,.inr ⟨_,rfl,hG,fun i x hi=> ?_⟩⟩;cases i with
 |succ i=>simp at hi
 |zero=>
  have hi':some n=some x:=hi;cases hi';refine ⟨[.int .i64 n],rfl,fun j u hj=> ?_⟩
  match j,hj with
  |0,hj=>exact znz w _ _ 0 u hj
theorem xde [Dfr] {W:World} {B:Nat} {cs:Array Value} {T:TypeId} {q:Nat×Nat} (h:W.heap[B]? =some (.cells cs T q)) (j:Nat) (v:Value):(W.setCell ⟨B,j,none⟩ v).heap[B]? =some (.cells (cs.setIfInBounds j v) T q)∧Kept (fun x=>x=B) W (W.setCell ⟨B,j,none⟩ v):=by
 refine ⟨?_,rfl,rfl,rfl,?_,fun b hb hn=> ?_,Nat.le_refl _⟩
 ·show (W.heap.modify B _)[B]? =_;rw [Array.getElem?_modify,if_pos rfl,h];rfl
 ·show W.heap.size≤(W.heap.modify B _).size;rw [Array.size_modify];exact Nat.le_refl _
 ·show (W.heap.modify B _)[b]? =_;rw [Array.getElem?_modify,if_neg fun e=>hn e.symm]
theorem xfs [Dfr] {W:World} {B:Nat} {a b a' b':Value} {T:TypeId} {q:Nat×Nat} (h:W.heap[B]? =some (.cells #[a,b] T q)):((W.setCell ⟨B,0,none⟩ a').setCell ⟨B,1,none⟩ b').heap[B]? =some (.cells #[a',b'] T q)∧Kept (fun x=>x=B) W ((W.setCell ⟨B,0,none⟩ a').setCell ⟨B,1,none⟩ b'):=by obtain ⟨h1,k1⟩:=xde h 0 a';obtain ⟨h2,k2⟩:=xde h1 1 b';exact ⟨h2,k1.trans k2 fun _ h=>.inl h⟩
def lenOf:Value→Nat
 | .slice _ n _=>n
 |_=>0
structure FInv [Dfr] (F:Nat→Prop) (w wr:World) (B kb eb mb:Nat) (cur:Tm) (t:Tc) (ps:List Int) (og:Option Nat) (v0 v7 va:Value):Prop where
 row:Cl (ogF F og) wr (.slice 68 NdY) cur.row [v0]
 box:wr.heap[B]? =some (.cells #[va,.int .i64 t.2] 33 (0,0))
 tc:Cl (ogF F og) wr StY t.1 [va]
 own:OwnO F wr 3 (.int .i64) ps v7 og
 memo:Memo (ogF F og) wr kb eb mb
 kept:Kept (fun b=>w.heap.size≤b) w wr
 ogn:∀g,og=some g→w.heap.size≤g∧g<wr.heap.size∧g≠mb∧g≠B
 glob:zdp E (ogF F og) wr
 lt:∀b,F b→b<wr.heap.size
 bm:B≠mb
 fm:F mb
 fb:F B
theorem FInv.flt [Dfr] {F:Nat→Prop} {w wr:World} {B kb eb mb:Nat} {cur:Tm} {t:Tc} {ps:List Int} {og:Option Nat} {v0 v7 va:Value} (h:FInv F w wr B kb eb mb cur t ps og v0 v7 va):∀b,ogF F og b→b<wr.heap.size:=fun b hb=>by
 rcases hb with hb|hb
 ·exact h.lt b hb
 ·exact (h.ogn b hb).2.1
theorem FInv.step [Dfr] {F:Nat→Prop} {w wr w1:World} {B kb eb mb:Nat} {cur:Tm} {t:Tc} {ps:List Int} {og:Option Nat} {v0 v7 va:Value} (h:FInv F w wr B kb eb mb cur t ps og v0 v7 va) (hk:Kept (fun b=>b=mb) wr w1) (hm:Memo (ogF F og) w1 kb eb mb) (hb:w.heap.size≤mb):FInv F w w1 B kb eb mb cur t ps og v0 v7 va:=by
 have S:Step (ogF F og) (ogF F og) wr w1:=zbf hk fun b e=>.inl (e▸h.fm)
 exact ⟨h.row.step S,(hk.block B (Array.getElem?_eq_some_iff.1 h.box).1 h.bm).trans h.box,h.tc.step S,qby h.own S fun g e=>hk.block g (h.ogn g e).2.1 (h.ogn g e).2.2.1,hm,h.kept.trans hk fun x e=>.inl (e▸hb),fun g e=>⟨(h.ogn g e).1,Nat.lt_of_lt_of_le (h.ogn g e).2.1 hk.size,(h.ogn g e).2.2⟩,h.glob.step S,fun b e=>Nat.lt_of_lt_of_le (h.lt b e) hk.size,h.bm,h.fm,h.fb⟩
theorem FInv.plain [Dfr] {F:Nat→Prop} {w wr w1:World} {B kb eb mb:Nat} {cur:Tm} {t:Tc} {ps:List Int} {og:Option Nat} {v0 v7 va:Value} (h:FInv F w wr B kb eb mb cur t ps og v0 v7 va) (hk:Kept (fun _=>False) wr w1):FInv F w w1 B kb eb mb cur t ps og v0 v7 va:=by
 have S:Step (ogF F og) (ogF F og) wr w1:=zbf hk fun b e=>e.elim
 exact ⟨h.row.step S,(hk.block B (Array.getElem?_eq_some_iff.1 h.box).1 id).trans h.box,h.tc.step S,qby h.own S fun g e=>hk.block g (h.ogn g e).2.1 id,h.memo.kept hk,h.kept.trans hk fun x e=>e.elim,fun g e=>⟨(h.ogn g e).1,Nat.lt_of_lt_of_le (h.ogn g e).2.1 hk.size,(h.ogn g e).2.2⟩,h.glob.step S,fun b e=>Nat.lt_of_lt_of_le (h.lt b e) hk.size,h.bm,h.fm,h.fb⟩
theorem FInv.cells [Dfr] {F:Nat→Prop} {w wr:World} {B kb eb mb:Nat} {cur:Tm} {t:Tc} {ps:List Int} {og:Option Nat} {v0 v7 va:Value} (h:FInv F w wr B kb eb mb cur t ps og v0 v7 va):wr.cell? ⟨B,0,none⟩=some va∧wr.cell? ⟨B,1,none⟩=some (.int .i64 t.2):=⟨by rw [cell_of_block h.box];rfl,by rw [cell_of_block h.box];rfl⟩
theorem FInv.exp [Dfr] [zdv] [zcd] [zdi] [zji] {F:Nat→Prop} {w wr:World} {B kb eb mb:Nat} {cur:Tm} {t:Tc} {ps:List Int} {og:Option Nat} {v0 v7 va:Value} (h:FInv F w wr B kb eb mb cur t ps og v0 v7 va) (hb:w.heap.size≤mb) {n:Tm} (hn:Good n) (h8:cntW n.row≤8) {v:Value} (hv:Cl (ogF F og) wr (.slice 68 NdY) n.row [v]):
 Calls Tryz.prog 83 #[v,.pointer (some ⟨kb,0,none⟩),.pointer (some ⟨eb,0,none⟩)] wr fun e w'=>∃s c,e= .returned (.slice s n.tr.length c)∧Kept (fun b=>b=mb) wr w'∧FInv F w w' B kb eb mb cur t ps og v0 v7 va∧Cl (ogF F og) w' (.slice 33 TcY) n.tr [.slice s n.tr.length c]:=by
 refine (yjx (cntW n.row+1) n hn h8 (Nat.lt_succ_self _) wr (ogF F og) v kb eb mb h.flt h.glob hv h.memo).mono ?_;rintro e w1 ⟨s,c,he,hk,hm,hcl⟩;exact ⟨s,c,he,hk,h.step hk hm hb,hcl⟩
theorem ytq [Dfr] {F:Nat→Prop} {w:World} {e:TypeId} {u:Ty} {xs:List u.den} {v:Value} {og:Option Nat} (h:OwnO F w e u xs v og):lenOf v=xs.length:=by
 cases og with
 |none=>obtain ⟨rfl,a,rfl⟩:=h;rfl
 |some g=>obtain ⟨_,cap,cur,rfl,_⟩:=h;rfl
theorem FInv.pick [Dfr] {F:Nat→Prop} {w wt w9:World} {B kb eb mb:Nat} {cur n':Tm} {t r:Tc} {ps:List Int} {og og':Option Nat} {v0 v7 va v9 vn vr:Value} {k:Int} (h:FInv F w wt B kb eb mb cur t ps og v0 v7 va) (hB:B=w.heap.size) (hb:w.heap.size≤mb) (hrow:Cl (ogF F og) wt (.slice 68 NdY) n'.row [vn]) (htc:Cl (ogF F og) wt StY r.1 [vr])
 (hown:OwnO F w9 3 (.int .i64) (ps++[k]) v9 og') (hk:Kept (fun b=>og=some b) wt w9) (hn:∀g,og'=some g→og=some g∨wt.heap.size≤g) (hl:∀g,og'=some g→g<w9.heap.size):
 FInv F w ((w9.setCell ⟨B,0,none⟩ vr).setCell ⟨B,1,none⟩ (.int .i64 r.2)) B kb eb mb n' r (ps++[k]) og' vn v9 vr:=by
 have hbx9:w9.heap[B]? =some (.cells #[va,.int .i64 t.2] 33 (0,0)):=(hk.block _ (Array.getElem?_eq_some_iff.1 h.box).1 fun e=>(h.ogn _ e).2.2.2 rfl).trans h.box;obtain ⟨b1,b2⟩:=xfs (a':=vr) (b':=.int .i64 r.2) hbx9;have hBl:=(Array.getElem?_eq_some_iff.1 h.box).1;have hmbl:=h.memo.lt.2.2;have hk2:Kept (fun b=>og=some b∨b=B) wt ((w9.setCell ⟨B,0,none⟩ vr).setCell ⟨B,1,none⟩ (.int .i64 r.2)):=(hk.yyg fun _ _ e=>.inl e).trans b2 fun _ e=>.inl (.inr e)
 have hBmem:ogF F og B:=.inl h.fb;have S:Step (ogF F og) (ogF F og') wt ((w9.setCell ⟨B,0,none⟩ vr).setCell ⟨B,1,none⟩ (.int .i64 r.2)):=⟨fun b hb hlt=>hk2.block b hlt fun e=>by
  rcases e with e|e
  ·exact hb (.inr e)
  ·exact hb (e▸hBmem),fun b hb=>by
  rcases hb with hb|hb
  ·exact .inl (.inl hb)
  ·rcases hn b hb with e|e
   ·exact .inl (.inr e)
   ·exact .inr e⟩
 have S9:Step (ogF F og') (ogF F og') w9 ((w9.setCell ⟨B,0,none⟩ vr).setCell ⟨B,1,none⟩ (.int .i64 r.2)):=zbf b2 fun b e=>.inl (e▸h.fb)
 have hogn:∀g,og'=some g→w.heap.size≤g∧g<((w9.setCell ⟨B,0,none⟩ vr).setCell ⟨B,1,none⟩ (.int .i64 r.2)).heap.size∧g≠mb∧g≠B:=fun g e=>by
  have h1:=Nat.lt_of_lt_of_le (hl g e) b2.size;rcases hn g e with e2|e2
  ·exact ⟨(h.ogn g e2).1,h1,(h.ogn g e2).2.2⟩
  ·exact ⟨by have:=h.kept.size;omega,h1,by omega,by omega⟩
 refine ⟨hrow.step S,b1,htc.step S,qby hown S9 fun g e=>b2.block g (hl g e) (hogn g e).2.2.2,h.memo.step S ?_ (.inl h.fm),h.kept.trans hk2 fun x e=> ?_,hogn,h.glob.step S,fun b e=>Nat.lt_of_lt_of_le (h.lt b e) hk2.size,h.bm,h.fm,h.fb⟩
 ·exact hk2.block mb hmbl fun e=>by
   rcases e with e|e
   ·exact (h.ogn _ e).2.2.1 rfl
   ·exact h.bm e.symm
 ·rcases e with e|e
  ·exact .inl (h.ogn _ e).1
  ·exact .inl (by omega)
set_option maxHeartbeats 6400000 in
theorem xbv [Dfr] [zdv] [zcd] [zdi] [zji] {F:Nat→Prop} {w:World} {v vt:Value} {n:Tm} {t0:Tc} (hF:∀b,F b→b<w.heap.size) (hg:zdp E F w) (hc:Cl F w (.slice 68 NdY) n.row [v]) (ht:Cl F w StY t0.1 [vt]) (hn:Good n) (h8:cntW n.row≤8) (htl:t0.1.length≤1000000):
 Calls Tryz.prog 24 #[v,.agg #[vt,.int .i64 t0.2]] w fun e w'=>∃u,e= .returned (.tuple #[u,.bool (znl n.row t0).2])∧Kept (fun _=>False) w w'∧Cl F w' (.slice 3 (.int .i64)) (znl n.row t0).1 [u]:=by
 obtain ⟨ru,hru⟩:∃ru,znl n.row t0=ru:=⟨_,rfl⟩;have hres:t0∈n.tr→ru=(picks (cntW n.row+1) n.row t0,true):=fun h=>by rw [←hru,qik ⟨qnv hn,by rw [zge hn];exact h⟩]
 have hres0:¬t0∈n.tr→ru=([],false):=fun h=>by rw [←hru,qil (fun h2=>h (by rw [←zge hn];exact h2.2))]
 rw [hru];have hchk:=zzf n.row (by have:=hn.len;omega);rw [qnv hn] at hchk;have kB:=zcc w (Obj.cells #[vt,.int .i64 t0.2] 33);have sB:Step F F w (w.alloc (Obj.cells #[vt,.int .i64 t0.2] 33)):=zbf kB fun _ h=>h.elim
 have hFB:∀b,F b→b<(w.alloc (Obj.cells #[vt,.int .i64 t0.2] 33)).heap.size:=fun b hb=>Nat.lt_of_lt_of_le (hF b hb) kB.size
 have hbx:(w.alloc (Obj.cells #[vt,.int .i64 t0.2] 33)).heap[w.heap.size]? =some (.cells #[vt,.int .i64 t0.2] 33 (0,0)):=World.alloc_heap_new w _;obtain ⟨s,c,rfl⟩:=zcz hc;obtain ⟨st,ct,rfl⟩:=zcz ht;go_enter Tryz.func24,Tryz.ntmps24;go_wp2_with (go_at_fn 47);refine (qfp hchk hFB (hg.step sB) (hc.step sB)).mono ?_;rintro e w1 ⟨rfl,hk1⟩;have hF1:∀b,F b→b<w1.heap.size:=fun b hb=>Nat.lt_of_lt_of_le (hFB b hb) hk1.size
 go_wp2_with (go_at_fn 49);have hBl:w.heap.size<w1.heap.size:=Nat.lt_of_lt_of_le (Array.getElem?_eq_some_iff.1 hbx).1 hk1.size;refine (qdn (F:=fun b=>F b∨b=w.heap.size) (fun b hb=>by
  rcases hb with hb|rfl
  ·exact hF1 b hb
  ·exact hBl)).mono ?_
 rintro e w2 ⟨kb,eb,mb,rfl,hk2,hmb,hm2⟩;have hk02:Kept (fun _=>False) w w2:=(kB.trans hk1 fun _ h=>h.elim).trans hk2 fun _ h=>h.elim
 obtain ⟨F2,hF2⟩:∃F2:Nat→Prop,(fun b=>(F b∨b=w.heap.size)∨b=mb)=F2:=⟨_,rfl⟩;have hF2i:∀b,F2 b↔(F b∨b=w.heap.size)∨b=mb:=fun b=>by rw [←hF2]
 have s2:Step F (ogF F2 none) w w2:=⟨fun b hb hlt=>hk02.block b hlt id,fun b hb=>by
  rcases hb with hb|hb
  ·rw [hF2i] at hb;rcases hb with (hb|rfl)|rfl
   ·exact .inl hb
   ·exact .inr (Nat.le_refl _)
   ·exact .inr (by omega)
  ·cases hb⟩
 have hmm:Memo (ogF F2 none) w2 kb eb mb:=hm2.step ⟨fun b hb hlt=>rfl,fun b hb=>by
  rcases hb with hb|hb
  ·exact .inl ((hF2i b).1 hb)
  ·cases hb⟩ rfl (.inl ((hF2i mb).2 (.inr rfl)))
 have hI:FInv F2 w w2 w.heap.size kb eb mb n t0 [] none (.slice s n.row.length c) (.slice none 0 0) (.slice st t0.1.length ct):=by
  refine ⟨hc.step s2,(hk2.block _ hBl id).trans ((hk1.block _ (Array.getElem?_eq_some_iff.1 hbx).1 id).trans hbx),ht.step s2,⟨rfl,none,rfl⟩,hmm,zml hk02,fun g h=>(by cases h),hg.step s2,fun b hb=> ?_,by omega,(hF2i mb).2 (.inr rfl),(hF2i _).2 (.inl (.inr rfl))⟩;rw [hF2i] at hb;rcases hb with (hb|rfl)|rfl
  ·exact Nat.lt_of_lt_of_le (hF b hb) hk02.size
  ·exact Nat.lt_of_lt_of_le hBl hk2.size
  ·exact hm2.lt.2.2
 clear hmm s2 hm2 hbx kB sB;go_wp2;go_loopw [0,7] (fun v0 v7 wr=>∃(cur:Tm) (t:Tc) (ps:List Int) (og:Option Nat) (va:Value) (cc:Nat),FInv F2 w wr w.heap.size kb eb mb cur t ps og v0 v7 va∧Good cur∧cntW cur.row<cc∧ps.length+cntW cur.row≤8∧t.1.length≤1000000∧(t0∈n.tr↔t∈cur.tr)∧ps++picks cc cur.row t=picks (cntW n.row+1) n.row t0) (fun _ v7 _=>9-lenOf v7)
 case atStart=>exact ⟨n,t0,[],none,_,cntW n.row+1,hI,hn,Nat.lt_succ_self _,by simpa using h8,htl,Iff.rfl,rfl⟩
 case round=>
  obtain ⟨cur,t,ps,og,va,cc,hI,hcur,hcc,h8,htl,hiff,hpk⟩:=hrel;have hId:=hI.plain (Kept.refl (fun _=>False) wr).drew;have hmb':w.heap.size≤mb:=by omega
  have hex:=hId.exp hmb' hcur (by omega) hId.row;obtain ⟨hb0,hb1⟩:=hId.cells;have hsh:zgq cur.tr:=fewT.short fun x hx=>Nat.le_trans (zbm hcur.2.2.2 x hx) (by decide)
  have hln:=qon hcur (by omega);have hHas:zun cur.tr t=some (decide (t∈cur.tr)):=qok _ _ (by omega) hsh;obtain ⟨sv,cv,rfl⟩:=zcz hId.tc;go_wp2;apply xij (P:=fun sT cT w4=>FInv F2 w w4 w.heap.size kb eb mb cur t ps og u0 u7 (.slice sv t.1.length cv))
  case main=>
   intro tail;go_region_with (first
    |(go_at_call 83;refine hex.mono ?_;rintro e w3 ⟨sT,cT,rfl,hk3,hI3,hc3⟩;obtain ⟨hb30,hb31⟩:=hI3.cells)
    |(go_at_call 33;refine (yfz hHas hI3.flt hI3.glob hc3 hI3.tc).mono ?_;rintro e w4 ⟨rfl,hk4⟩))
   all_goals exact tail sT cT w4 (hI3.plain hk4)
  case tail=>
   intro sT cT w4 hI4;clear hex hb0 hb1 hId;have hFno:∀g,og=some g→¬F2 g:=fun g hgo hf=>by
    obtain ⟨g1,g2,g3,g4⟩:=hI4.ogn g hgo;rw [hF2i] at hf;rcases hf with (hf|hf)|hf
    ·have:=hF g hf;omega
    ·exact g4 hf
    ·exact g3 hf
   have hkend:∀wr,Kept (fun b=>w.heap.size≤b) w wr→Kept (fun _=>False) w wr:=fun wr hk=>hk.yyg fun b h1 h2=>by omega
   by_cases hm:t∈cur.tr
   ·cases ho:cur.zjb with
    |true=>
     obtain ⟨s',rfl⟩:∃s',cur= .over s':=by cases cur<;>first|exact ⟨_,rfl⟩|cases ho
     have hE:zdx (Tm.over s').row=some (s',true):=zfq (.over s');have hrr:=hres (hiff.2 hm);rw [←hpk,qbw,List.append_nil] at hrr;subst hrr;go_wp2_with (go_at_fn 44);refine (zxu hE hI4.flt hI4.glob hI4.row).mono ?_;rintro e w5 ⟨rfl,hk5⟩;have hI5:=hI4.plain hk5;go_wp2;go_ret2;exact ⟨_,rfl,hkend _ hI5.kept,Cl.lift (fun b hb=>(hF2i b).2 (.inl (.inl hb))) (xeg hI5.own hFno)⟩
    |false=>
     have hE:zdx cur.row=some (0,false):=by rw [zfq cur];cases cur<;>first|rfl|cases ho
     have hlen:=hcur.len;have hL:=qkg cur.row;go_wp2_with (go_at_fn 44);refine (zxu hE hI4.flt hI4.glob hI4.row).mono ?_;rintro e w5 ⟨rfl,hk5⟩;have hI5:=hI4.plain hk5;go_wp2_with (go_at_fn 28);refine (qim (zmk cur.row (by omega)) hI5.flt hI5.glob hI5.row).mono ?_;rintro e w6 ⟨sM,cM,rfl,hk6,hcM⟩;have hI6:=hI5.plain hk6;go_wp2;go_loopw [0,7,36] (fun v0 v7 v36 wi=>∃k:Nat,v0=u0∧v7=u7∧v36= .int .i64 (k:Int)∧k≤(enL cur.row).length∧FInv F2 w wi w.heap.size kb eb mb cur t ps og u0 u7 (.slice sv t.1.length cv)∧Kept (fun b=>b=mb) w6 wi∧∀j,(hj:j<(enL cur.row).length)→j<k→¬hitR cur.row t (enL cur.row)[j]) (fun _ _ v36 _=>(enL cur.row).length-(intOf v36).toNat)
     case atStart=>exact ⟨0,rfl,rfl,rfl,Nat.zero_le _,hI6,Kept.refl _ _,fun j _ h=>absurd h (Nat.not_lt_zero _)⟩
     case round=>
      obtain ⟨k,e0,e7,rfl,hk,hIi,hki,hno⟩:=hrel;subst e0;subst e7;by_cases hlt:k<(enL cur.row).length
      ·obtain ⟨ab,ao,hix,hab,hc0,hc1⟩:=xjh (hcM.step (zbf hki fun b e=>.inl (e▸hI6.fm))) hlt;have hmem:(enL cur.row)[k]∈enL cur.row:=List.getElem_mem hlt;obtain ⟨mv,hmv⟩:∃mv,(enL cur.row)[k]=mv:=⟨_,rfl⟩;rw [hmv] at hmem hc0 hc1;obtain ⟨n',e1,e2,hg',hcnt,hst,hsz',_⟩:=zvx hcur hmem;obtain ⟨nm,hnmE⟩:∃nm,(zdc cur.row mv).2.1=nm:=⟨_,rfl⟩;have hN:zqs cur.row mv=some (n'.row,nm,0):=by rw [qdy cur.row mv (by omega)];exact congrArg some (Prod.ext e1 (Prod.ext hnmE e2))
       go_wp2_with (go_at_fn 41);obtain ⟨WA,hWA⟩:∃WA,wr.alloc (Obj.cells #[Value.int IntKind.i64 mv.1,Value.int IntKind.i64 mv.2] 71)=WA:=⟨_,rfl⟩;have kA:Kept (fun _=>False) wr WA:=hWA▸zcc wr _;have hIA:=hIi.plain kA;rw [hWA];refine (qwi hN hIA.flt hIA.glob hIA.row).mono ?_;rintro e w7 ⟨sN,cN,rfl,hk7,hcN⟩;have hI7:=hIA.plain hk7;have hkA7:Kept (fun b=>b=mb) w6 w7:=hki.trans (kA.trans hk7 fun _ h=>h.elim) fun x h=>h.elim
       clear hWA hix hc0 hc1 kA hIA hk7;obtain ⟨hb0,hb1⟩:=hI7.cells;obtain ⟨⟨r,rb⟩,hr⟩:∃r,zlr t nm=r:=⟨_,rfl⟩;have hrs:=qpx t nm (by omega);rw [hr] at hrs;go_wp2_with (go_at_fn 52);refine (yog hrs hI7.flt hI7.glob hI7.tc).mono ?_;rintro e w8 ⟨sR,cR,rfl,hk8,hcR⟩;have hI8:=hI7.plain hk8;go_wp2;obtain ⟨W9,hW9⟩:∃W9,w8.alloc (Obj.cells #[Value.slice sR r.1.length cR,Value.int IntKind.i64 r.2] 33)=W9:=⟨_,rfl⟩;have k9:Kept (fun _=>False) w8 W9:=hW9▸zcc w8 _;have hI9:=hI8.plain k9;have hbx9:W9.heap[w8.heap.size]? =some (.cells #[.slice sR r.1.length cR,.int .i64 r.2] 33 (0,0)):=by rw [←hW9];exact World.alloc_heap_new w8 _
       rw [hW9];have hk69:Kept (fun b=>b=mb) w6 W9:=hkA7.trans (hk8.trans k9 fun _ h=>h.elim) fun x h=>h.elim
       have hcN9:=hcN.step (zbf (hk8.trans k9 fun _ h=>h.elim) fun _ h=>h.elim);have hcR9:=hcR.step (zbf k9 fun _ h=>h.elim);have hmb8:mb<w8.heap.size:=hI8.memo.lt.2.2;have hog8:∀g,og=some g→g<w8.heap.size:=fun g h=>(hI8.ogn g h).2.1
       have hB8:w.heap.size<w8.heap.size:=(Array.getElem?_eq_some_iff.1 hI8.box).1;clear hW9 hkA7 hb0 hb1 hI7 hI8 hk8 k9;cases rb with
       |false=>
        first|(go_region_with fail)|fail
        all_goals
         go_wp2;refine ⟨⟨k+1,rfl,rfl,by go_num,by omega,hI9.plain (Kept.refl (fun _=>False) W9).drew,hk69.drew,fun j hj hjk=> ?_⟩,by simp [intOf];omega⟩;rcases Nat.lt_or_eq_of_le (Nat.le_of_lt_succ hjk) with h|h
         ·exact hno j hj h
         ·subst h;rw [hmv];intro hh;have h2:=hh.1;rw [hnmE,hr] at h2;cases h2
       |true=>
        have hId:=hI9.plain (Kept.refl (fun _=>False) W9).drew;have hex:=hId.exp hmb' hg' (by omega) (hcN9.step (zbf (Kept.refl (fun _=>False) W9).drew fun _ h=>h.elim));have hb50:W9.drew.cell? ⟨w8.heap.size,0,none⟩=some (.slice sR r.1.length cR):=by rw [cell_of_block (show W9.drew.heap[w8.heap.size]? =_ from hbx9)];rfl
        have hb51:W9.drew.cell? ⟨w8.heap.size,1,none⟩=some (.int .i64 r.2):=by rw [cell_of_block (show W9.drew.heap[w8.heap.size]? =_ from hbx9)];rfl
        have hsh':zgq n'.tr:=fewT.short fun x hx=>Nat.le_trans (zbm hg'.2.2.2 x hx) (by decide)
        have hln':=qon hg' (by omega);have hHas':zun n'.tr r=some (decide (r∈n'.tr)):=qok _ _ (by omega) hsh';have hS3:∀w3,Kept (fun b=>b=mb) W9.drew w3→Step (ogF F2 og) (ogF F2 og) W9 w3:=fun w3 hk=>zbf (Kept.trans (Kept.refl _ W9).drew hk fun _ h=>.inl h) fun b e=>.inl (e▸hI9.fm)
        apply xij (P:=fun sT cT w4=>FInv F2 w w4 w.heap.size kb eb mb cur t ps og _ _ (.slice sv t.1.length cv)∧w4.cell? ⟨w8.heap.size,0,none⟩=some (.slice sR r.1.length cR)∧w4.cell? ⟨w8.heap.size,1,none⟩=some (.int .i64 r.2)∧Cl (ogF F2 og) w4 StY r.1 [.slice sR r.1.length cR]∧Cl (ogF F2 og) w4 (.slice 68 NdY) n'.row [.slice sN n'.row.length cN]∧Kept (fun b=>b=mb) w6 w4)
        case main=>
         intro tail;go_region_with (first
          |(go_at_call 83;refine hex.mono ?_;rintro e w3 ⟨sT,cT,rfl,hk3,hI3,hc3⟩;have hb30:=zcl hk3 (fun h=>by simp only at h;omega) hb50;have hb31:=zcl hk3 (fun h=>by simp only at h;omega) hb51)
          |(go_at_call 33;refine (yfz hHas' hI3.flt hI3.glob hc3 (hcR9.step (hS3 w3 hk3))).mono ?_;rintro e w4 ⟨rfl,hk4⟩))
         all_goals exact tail sT cT w4 ⟨hI3.plain hk4,zcl hk4 id hb30,zcl hk4 id hb31,(hcR9.step (hS3 w3 hk3)).step (zbf hk4 fun _ h=>h.elim),(hcN9.step (hS3 w3 hk3)).step (zbf hk4 fun _ h=>h.elim),(hk69.drew.trans hk3 fun _ h=>.inl h).trans hk4 fun _ h=>h.elim⟩
        case tail=>
         rintro sT2 cT2 wt ⟨hIt,hbt0,hbt1,hcRt,hcNt,hkt⟩;by_cases hr2:r∈n'.tr
         ·obtain ⟨wd,hwd⟩:∃wd,wt.drew=wd:=⟨_,rfl⟩;have kd:Kept (fun _=>False) wt wd:=hwd▸(Kept.refl (fun _=>False) wt).drew;obtain ⟨wl,hwl⟩:∃wl,(wt.alloc (Obj.cells #[Value.int IntKind.i64 (k:Int)] 3)).drew=wl:=⟨_,rfl⟩;have hwl2:wd.alloc (Obj.cells #[Value.int IntKind.i64 (k:Int)] 3)=wl:=by rw [←hwd];exact hwl
          have kl:Kept (fun _=>False) wd wl:=hwl2▸zcc wd _;have hId2:=hIt.plain kd;have hIl:=hId2.plain kl;have hlit:Cl (ogF F2 og) wl (.slice 3 (.int .i64)) [(k:Int)] [.slice (some ⟨wt.heap.size,0,none⟩) 1 1]:=by rw [←hwl2,show wt.heap.size=wd.heap.size from by rw [←hwd];rfl];exact xjk _ fun h=>Nat.lt_irrefl _ (hId2.flt _ h)
          obtain ⟨v9,w9,og',hrun,hown9,hk9,hn9,hl9⟩:=qwh (tt:=23) (ty:=23) (e:=3) (u:=.int .i64) rfl rfl rfl rfl (fun b hb=>⟨hIl.lt b hb,fun h=>hFno b h hb⟩) (fun g h=>(hIl.ogn g h).2.1) hIl.glob hIl.own hlit (room (by simp;omega));have hcd0:=zcl kd id hbt0;have hcd1:=zcl kd id hbt1;have hcl0:=zcl kl id hcd0;have hcl1:=zcl kl id hcd1;have hw8:∀g,og=some g→g≠w8.heap.size:=fun g h=>Nat.ne_of_lt (hog8 g h)
          have hc90:=zcl hk9 (fun h=>hw8 _ h rfl) hcl0;have hc91:=zcl hk9 (fun h=>hw8 _ h rfl) hcl1;have hbx9':w9.heap[w.heap.size]? =some (.cells #[.slice sv t.1.length cv,.int .i64 t.2] 33 (0,0)):=(hk9.block _ (Array.getElem?_eq_some_iff.1 hIl.box).1 fun h=>(hIl.ogn _ h).2.2.2 rfl).trans hIl.box;have hst0:w9.cell? ⟨w.heap.size,0,none⟩=some (.slice sv t.1.length cv):=by rw [cell_of_block hbx9'];rfl
          have hst1:w9.cell? ⟨w.heap.size,1,none⟩=some (.int .i64 t.2):=by rw [cell_of_block hbx9'];rfl
          have hfr0:w9.frozen? ⟨w.heap.size,0,none⟩=false:=by simp [World.frozen?,hbx9']
          have hfr1:w9.frozen? ⟨w.heap.size,1,none⟩=false:=by simp [World.frozen?,hbx9']
          obtain ⟨c',rfl⟩:∃c',cc=c'+1:=⟨cc-1,by omega⟩;have hhit:hitR cur.row t (enL cur.row)[k]:=by rw [hmv];exact ⟨by rw [hnmE,hr],by rw [hnmE,hr,e1,zge hg'];exact hr2⟩
          have hpa:=yas (c:=c') hlt hhit fun j hj=>hno j (by omega) hj
          rw [hmv,hnmE,hr,e1] at hpa;have hpk9:(ps++[(k:Int)])++picks c' n'.row r=picks (cntW n.row+1) n.row t0:=by rw [←hpk,hpa,List.append_assoc];rfl
          have hlen9:(ps++[(k:Int)]).length+cntW n'.row≤8:=by rw [List.length_append,List.length_singleton];omega
          have hrl:r.1.length≤t.1.length:=by have:=qqi (t:=t) (nm:=nm);rw [hr] at this;exact this
          have hpick:=hIt.pick rfl hmb' hcNt hcRt hown9 ((zml (G:=fun b=>og=some b) (kd.trans kl fun _ h=>h.elim)).trans hk9 fun _ h=>.inl h) (fun g h=>(hn9 g h).imp id fun h2=>Nat.le_trans (kd.trans kl fun _ h=>h.elim).size h2) hl9;go_wp2;clear hwl2;subst hwl;subst hwd;go_region_law (refine yyp rfl _ _ 23 rfl rfl rfl hrun ?_)
          all_goals
           go_wp2;exact ⟨⟨n',r,ps++[(k:Int)],og',_,c',hpick,hg',by omega,hlen9,Nat.le_trans hrl htl,⟨fun _=>hr2,fun _=>hiff.2 hm⟩,hpk9⟩,by rw [ytq hown9,ytq hIt.own];simp;omega⟩
         ·go_wp2;refine ⟨⟨k+1,rfl,rfl,by go_num,by omega,hIt,hkt,fun j hj hjk=> ?_⟩,by simp [intOf];omega⟩;rcases Nat.lt_or_eq_of_le (Nat.le_of_lt_succ hjk) with h|h
          ·exact hno j hj h
          ·subst h;rw [hmv];intro hh;have h2:=hh.2;rw [hnmE,hr,e1,zge hg'] at h2;exact hr2 h2
      ·exfalso;have hke:k=(enL cur.row).length:=by omega
       obtain ⟨mv,h1,h2⟩:=(xen hcur ho).1 hm;obtain ⟨j,hj,e⟩:=List.getElem_of_mem h1;exact hno j hj (by omega) (by rw [e];exact h2)
   ·have hrr:=hres0 fun h=>hm (hiff.1 h)
    subst hrr;go_wp2;go_ret2;refine ⟨_,rfl,hkend _ hI4.kept,?_⟩;rw [Cl];exact ⟨none,0,rfl,Nat.le_refl _,.inl rfl⟩
open Go Go.Sv Go.Proofs Go.Rd
theorem qgl [Dfr] (a b:List ByteArray) (h:a.length≤4611686018427387904):dyn E ⟨zet,[]⟩ [zen (.slice 9 .str) a,zen (.slice 9 .str) b] .bool=some (decide (cmpA a b= .eq)):=
 (zuu a b).trans ((zyp a b h).trans (congrArg some (decide_eq_decide.2 (ordA.eq a b).symm)))
theorem qcj [Dfr] (a b:List ByteArray) (h:a.length≤4611686018427387904):dyn E ⟨zdt,[]⟩ [zen (.slice 9 .str) a,zen (.slice 9 .str) b] (.int .i64)=some (ordN (cmpA a b)):=
 (zsa a b).trans (zlj a b h)
theorem yox [Dfr] (ys:List (List ByteArray)) (hy:ys.length≤1000000) (hs:∀y∈ys,y.length≤1000000):yax ys=some (canon cmpA ys):=by unfold yax;simp only [Option.bind_fun_some];exact qkw (u:=.slice 9 .str) ordA (by omega) (fun x hx y _=>qcj x y (by have:=hs x hx;omega)) (fun x hx y _=>qgl x y (by have:=hs x hx;omega))
theorem qif [Dfr] (w:World) (o:Obj) (b:Nat) (h:b<w.heap.size):(w.alloc o).heap[b]? =w.heap[b]? :=by show (w.heap.push o)[b]? =_;rw [Array.getElem?_push,if_neg (by omega)]
set_option maxHeartbeats 4000000 in
theorem qmb [Dfr] [zdv] (p q:List ByteArray) (r:List (List ByteArray)) (h:qhx p q=some r):zco Tryz.prog E 180 (p,q) r:=by
 unfold qhx at h;split at h
 ·rename_i hc;obtain ⟨hc1,hc2⟩:=hc;cases h;have hys:∀y∈zgn [] p q,y.length≤1000000:=fun y hy=>by obtain ⟨r,e,hr⟩:=zvu.1 hy;have:=hr.len;rw [e];simp;omega
  obtain ⟨k,hk⟩:=((yfn (zgn [] p q)).iff _).1 (yox _ hc2 hys);have hev:=(xji k k (zgn [] p q)).trans hk;intro w F0 G A vs hA;obtain ⟨v0,v1,rfl,h0,h1⟩:∃v0 v1,vs=[v0,v1]∧Cl (A.F F0) w (.slice 9 .str) p [v0]∧Cl (A.F F0) w (.slice 9 .str) q [v1]:=by
   have hr:=hA.rel;cases hr with
   |cons a hr=>cases hr with
    |cons b hr=>cases hr;exact ⟨_,_,rfl,a,b⟩
  refine calls_of_wp Tryz.func180 rfl ?_;simp only [Tryz.ntmps180,List.size_toArray,List.length_cons,List.length_nil,Nat.reduceAdd,Nat.reduceSub,Array.replicate_succ,Array.replicate_zero,List.push_toArray,List.append_toArray,List.nil_append,List.cons_append];have hbx:Boxed ((w.alloc (.cells #[.slice none 0 0] 184)).alloc (.cells #[.nilFunc] 222)) (w.heap.size+1) 222 .nilFunc:=by
   have:=Boxed.new (w.alloc (.cells #[.slice none 0 0] 184)) 222 .nilFunc
   rwa [World.size_alloc] at this
  have hsf:=fun (a:Addr) (c:Array Value) (w:World)=>run_store Tryz.prog w a (.func (.func 226) #[] c) .plain rfl
  have hb1:=hbx.cell;have hb2:=hbx.frozen;go_wp2_with fail;clear hb1 hb2 hsf;rename_i K1 hK1 K2 hK2;have hlt:∀b,A.F F0 b→b<w.heap.size:=fun b hb=>by
   rcases hb with hb|⟨d,hb⟩|⟨n,l,hb⟩
   ·exact (hA.f0 b hb).1
   ·rw [hA.bx] at hb;cases hb
   ·exact (hA.tgm n b l hb).2
  obtain ⟨W0,hW0⟩:∃W0,(w.alloc (Obj.cells #[Value.slice none 0 0] 184)).alloc (Obj.cells #[zfr 226 w.heap.size (w.heap.size+1)] 222)=W0:=⟨_,rfl⟩;have hs0:W0.heap.size=w.heap.size+2:=by rw [←hW0];simp
  have hbo:W0.heap[w.heap.size]? =some (.cells #[.slice none 0 0] 184 (0,0)):=by rw [←hW0];exact (qif _ _ _ (by simp)).trans (World.alloc_heap_new w _)
  have hbr:W0.cell? ⟨w.heap.size+1,0,none⟩=some (zfr 226 w.heap.size (w.heap.size+1)):=by rw [←hW0];have:=Boxed.new (w.alloc (.cells #[.slice none 0 0] 184)) 222 (zfr 226 w.heap.size (w.heap.size+1));rw [World.size_alloc] at this;exact this.cell
  have hk0:Kept G w W0:=by refine ⟨by rw [←hW0];rfl,by rw [←hW0];rfl,by rw [←hW0];rfl,by omega,fun b hb _=> ?_,by rw [←hW0];exact Nat.le_refl _⟩;rw [←hW0];exact (qif _ _ _ (by simp;omega)).trans (qif _ _ _ hb)
  let F:Nat→Prop:=fun b=>A.F F0 b∨b=w.heap.size
  have S0:Step (A.F F0) F w W0:=⟨fun b _ hb=>by rw [←hW0];exact (qif _ _ _ (by simp;omega)).trans (qif _ _ _ hb),fun b hb=>hb.imp id fun e=>by omega⟩;have hH:((zwt (zkg [] p q)).bind fun x=>mixH (p.length+q.length+1) x.1 x.2.1 x.2.2 ([]:List (List ByteArray)))=some ([]++zgn [] p q):=by show mixH (p.length+q.length+1) [] p q []=_;unfold mixH;rw [if_pos ⟨by omega,by simp;omega,by simp;omega⟩]
  have hcalls:=(ysc (p.length+q.length+1)).runs (zkg [] p q) [] _ hH W0 F w.heap.size (w.heap.size+1) (.slice none 0 0) [.slice none 0 0,v0,v1] none
   (fun b hb=>by rcases hb with hb|rfl;have:=hlt b hb;omega;omega) (.inr rfl) (fun _ _ h=>by cases h) hbo ⟨rfl,none,rfl⟩
   (fun h=>by rcases h with h|h;have:=hlt _ h;omega;omega) hbr (hA.glob.step S0) (.cons ⟨none,0,rfl,Nat.le_refl _,.inl rfl⟩ (.cons (h0.step S0) (.cons (h1.step S0) .nil)))
  refine (hW0▸hcalls).mono ?_;rintro en w' ⟨rfl,hkept,so',own',hheap',hrow',hown'⟩;rw [hW0] at hkept hown';refine hK2 _ _ (hK1 _ _ ?_);clear hK1 hK2 hcalls
  let X:Ctx:={P:=Tryz.prog,E:=E,W:=w,G:=G,F0:=F0,n:=16}
  let A4:Fr:=⟨fun d=>if d=5 then some w.heap.size else none,fun m=>if m=320 then own' else none⟩
  have hbx:∀d b,A4.bx d=some b→d=5∧b=w.heap.size:=fun d b h=>by
   simp only [A4] at h;split at h
   ·cases h;exact ⟨‹_›,rfl⟩
   ·cases h
  have htg:∀m b l,A4.tg m=some (b,l)→m=320∧own'=some (b,l):=fun m b l h=>by
   simp only [A4] at h;split at h
   ·exact ⟨‹_›,h⟩
   ·cases h
  have hnew:∀go l,own'=some (go,l)→go<w'.heap.size∧W0.heap.size≤go:=fun go l h=>by
   obtain ⟨h1,h2⟩:=hown' go l h;rcases h2 with ⟨l0,h2⟩|h2
   ·cases h2
   ·exact ⟨h1,h2⟩
  have hk1:Kept G w w':=hk0.trans hkept fun b hb=>by
   rcases hb with rfl|⟨l,hb⟩
   ·exact .inr (Nat.le_refl _)
   ·cases hb
  have hsz:=hkept.size;have hXF:∀b,X.F A4 b→F0 b∨b=w.heap.size∨∃l,own'=some (b,l):=fun b hb=>by
   rcases hb with hb|⟨d,hb⟩|⟨m,l,hb⟩
   ·exact .inl hb
   ·exact .inr (.inl (hbx d b hb).2)
   ·exact .inr (.inr ⟨l,(htg m b l hb).2⟩)
  have S1:Step (A.F F0) (X.F A4) w w':=⟨fun b hb hl=>(hkept.block b (by omega) fun h=>by
   rcases h with h|⟨l,h⟩
   ·omega
   ·cases h).trans (S0.keep b hb hl),fun b hb=>by
   rcases hXF b hb with hb|hb|⟨l,hb⟩
   ·exact .inl (.inl hb)
   ·exact .inr (by omega)
   ·have:=(hnew b l hb).2;exact .inr (by omega)⟩
  have hso:RC (X.F A4) A4 w' (.slice 26 (.slice 9 .str) (zgn [] p q) (.own 320)) so':=by
   cases ho':own' with
   |none=>rw [ho'] at hrow';exact .inl ⟨by simp [A4,ho'],hrow'.1,hrow'.2⟩
   |some z=>
    obtain ⟨go,l⟩:=z;rw [ho'] at hrow';refine .inr ⟨go,l,by simp [A4,ho'],hrow'.2.step ⟨fun _ _ _=>rfl,fun b hb=>.inl ?_⟩ rfl⟩;rcases hXF b hb with hb|hb|⟨l2,hb⟩
    ·exact .inl ⟨.inl (.inl hb),fun _ h=>by cases h⟩
    ·exact .inl ⟨.inr hb,fun _ h=>by cases h⟩
    ·exact .inr ⟨l2,by rw [←ho'];exact hb⟩
  have hinv:Inv X A4 ⟨[(5,.sv (.one (.box 5 0)))],[(5,(184,[.slice 26 (.slice 9 .str) (zgn [] p q) (.own 320)]))]⟩ #[v0,v1,undef,undef,.slice none 0 0,.pointer (some {block:=w.heap.size,off:=0}),.pointer (some {block:=w.heap.size+1,off:=0}),
   zfr 226 w.heap.size (w.heap.size+1),zfr 226 w.heap.size (w.heap.size+1),v0,v1,.tuple #[],undef,undef,undef,undef] w':=by
   have hslot:∀i,RP (X.F A4) A4 w' (St.get ⟨[(5,.sv (.one (.box 5 0)))],[(5,(184,[.slice 26 (.slice 9 .str) (zgn [] p q) (.own 320)]))]⟩ i) ((#[v0,v1,undef,undef,.slice none 0 0,.pointer (some {block:=w.heap.size,off:=0}),.pointer (some {block:=w.heap.size+1,off:=0}),
    zfr 226 w.heap.size (w.heap.size+1),zfr 226 w.heap.size (w.heap.size+1),v0,v1,.tuple #[],undef,undef,undef,undef]:Array Value).getD i undef):=fun i=>by
    match i with
    |0|1|2|3|4=>trivial
    |5=>exact ⟨w.heap.size,by simp [A4],rfl⟩
    |i+6=>trivial
   refine ⟨rfl,hk1,hA.glob.step S1,hslot,fun d t cs hd=> ?_,?_,fun z hz=> ?_⟩
   ·simp only [getB] at hd;cases hb5:Nat.beq 5 d with
    |true=>have:=Nat.eq_of_beq_eq_true hb5;subst this;simp only [hb5,cond_true,Option.some.injEq,Prod.mk.injEq] at hd;obtain ⟨rfl,rfl⟩:=hd;exact ⟨w.heap.size,#[so'],by simp [A4],hheap',.cons hso .nil⟩
    |false=>simp [hb5] at hd
   ·refine ⟨fun d b h=> ?_,fun m b l h=> ?_,fun d d' b h h'=> ?_,fun m m' b l l' h h'=> ?_,fun d m b l h h'=> ?_,fun b hb=>hA.f0 b hb⟩
    ·obtain ⟨_,rfl⟩:=hbx d b h;exact ⟨.inl (Nat.le_refl _),by omega⟩
    ·have:=hnew b l (htg m b l h).2;exact ⟨.inl (show w.heap.size≤b by omega),this.1⟩
    ·rw [(hbx d b h).1,(hbx d' b h').1]
    ·rw [(htg m b l h).1,(htg m' b l' h').1]
    ·have h3:=(hbx d b h).2;have:=(hnew b l (htg m b l h').2).2;omega
   ·rw [List.mem_singleton] at hz;subst hz;exact ⟨_,hslot 5⟩
  obtain ⟨e,σ',hend,hcode⟩:=(qke (X:=X) (run:=run E k) (fuel:=k) (f:=180) tab (zog yge k) yuf (by kernel_rfl) 0 _ _ _).1 hev;refine hcode A4 ⟨_,[]⟩ w' _ hinv rfl fun A' a' w'' hi' hd'=> ?_
  have fin:qgy E σ' [.tmp 4] [184] (E.sig 180).res=some (mixS p q)→a'.defers=[]∧∃v,(results Tryz.f180 a'.tmps).run Tryz.prog w''= .ok v w''∧Sv.Returns G F0 w (E.sig 180).res (mixS p q) (.returned v) w'':=fun hres=>by obtain ⟨v,hv,hd⟩:=zwx (X:=X) (fn:=Tryz.f180) (tys:=[184]) (ks:=(E.sig 180).res) (r:=mixS p q) tab.types hi' hres;exact ⟨hd',v,hv,v,rfl,hi'.kept,hd⟩
  cases e with
  |normal=>exact fin hend
  |ret=>exact fin hend
  |exit id=>cases hend
  |goto l=>cases hend
 ·cases h
open Go Go.Sv Go.Proofs Go.Rd Go.RowKit Go.Shelf
def qng (l:List Nd) (i:Nat):Nat:=(arI (l.getD i default).1).toNat
theorem qof [Dfr] (l:List Nd):∀(t:T) (i:Nat) (r:List Nd),t.ok→l.drop i=t.row++r→t.ypx (qng l) i∧∀j,i≤j→j<i+t.size→qng l j≤2∧arI (l.getD j default).1=(qng l j:Int)
 | .n0 n,i,r,h,e=>by
   have h0:l.getD i default=n:=by
    have:l[i]? =some n:=by rw [←List.head?_drop,e];rfl
    rw [List.getD_eq_getElem?_getD,this];rfl
   have ha:arI n.1=0:=by unfold arI;rw [show ar n.1=some 0 from h];rfl
   have h1:qng l i=0:=by unfold qng;rw [h0,ha];rfl
   refine ⟨h1,fun j h2 h3=> ?_⟩;simp only [T.size] at h3;have:j=i:=by omega
   subst this;rw [h1,h0,ha];exact ⟨by omega,rfl⟩
 | .n1 n a,i,r,h,e=>by
   have h0:l.getD i default=n:=by
    have:l[i]? =some n:=by rw [←List.head?_drop,e];rfl
    rw [List.getD_eq_getElem?_getD,this];rfl
   have ha:arI n.1=1:=by unfold arI;rw [show ar n.1=some 1 from h.1];rfl
   have h1:qng l i=1:=by unfold qng;rw [h0,ha];rfl
   obtain ⟨i1,i2⟩:=qof l a (i+1) r h.2 (by rw [←List.drop_drop,e];rfl);refine ⟨⟨h1,i1⟩,fun j h2 h3=> ?_⟩;simp only [T.size] at h3;by_cases hj:j=i
   ·subst hj;rw [h1,h0,ha];exact ⟨by omega,rfl⟩
   ·exact i2 j (by omega) (by omega)
 | .n2 n a b,i,r,h,e=>by
   have h0:l.getD i default=n:=by
    have:l[i]? =some n:=by rw [←List.head?_drop,e];rfl
    rw [List.getD_eq_getElem?_getD,this];rfl
   have ha:arI n.1=2:=by unfold arI;rw [show ar n.1=some 2 from h.1];rfl
   have h1:qng l i=2:=by unfold qng;rw [h0,ha];rfl
   have e1:l.drop (i+1)=a.row++(b.row++r):=by rw [←List.drop_drop,e];simp [T.row]
   have e2:l.drop (i+1+a.size)=b.row++r:=by rw [←List.drop_drop,e1,←T.zac a,List.drop_left]
   obtain ⟨i1,i2⟩:=qof l a (i+1) _ h.2.1 e1;obtain ⟨i3,i4⟩:=qof l b (i+1+a.size) r h.2.2 e2;refine ⟨⟨h1,i1,i3⟩,fun j h2 h3=> ?_⟩;simp only [T.size] at h3;by_cases hj:j=i
   ·subst hj;rw [h1,h0,ha];exact ⟨by omega,rfl⟩
   ·by_cases hj2:j<i+1+a.size
    ·exact i2 j (by omega) hj2
    ·exact i4 j (by omega) (by omega)
theorem yoo [Dfr] (l:List Nd) (t:T) (ht:tree l=some t) (hl:l.length≤1000000):qhr l=some true:=by
 obtain ⟨htok,hrow⟩:=zga.1 ht;have hp:=T.zux t;have hlen:l.length=t.size:=by rw [hrow,T.zac]
 have hP:P l=some (t,[]):=by rw [hrow];exact qds htok
 have hsz:sz l=t.size:=by unfold sz;rw [hP]
 rw [yiy,zvc l (by omega),hsz,decide_eq_true (show (l.length:Int)>0 by omega),hlen];simp
theorem qhv [Dfr] [zdv] (l:List Nd) (k:Int) (r:List Int) (h:zvr l k=some r):zco Tryz.prog E 103 (l,k) r:=by
 unfold zvr at h;split at h
 ·rename_i t ht;split at h
  ·rename_i hc;obtain ⟨hl,hk0,hk1⟩:=hc;cases h;obtain ⟨htok,hrow⟩:=zga.1 ht;have hlen:l.length=t.size:=by rw [hrow,T.zac]
   obtain ⟨ho1,ho2⟩:=qof l t 0 [] htok (by rw [List.drop_zero,List.append_nil];exact hrow);intro w F0 G A vs hA;obtain ⟨v0,v1,rfl,h0,h1⟩:∃v0 v1,vs=[v0,v1]∧Cl (A.F F0) w (.slice 68 NdT) l [v0]∧v1= .int .i64 k:=by
    have hr:=hA.rel;cases hr with
    |cons a hr=>cases hr with
     |cons b hr=>cases hr;exact ⟨_,_,rfl,a,b⟩
   subst h1;obtain ⟨s,cap,rfl⟩:∃s cap,v0= .slice s l.length cap:=by have h0:=h0;rw [Cl] at h0;obtain ⟨a,c,e,_⟩:=h0;exact ⟨a,c,(List.cons.inj e).1⟩
   have hin:xkd w l s l.length cap:=fun W hW=>by have S:Step (A.F F0) (fun _=>False) w W:=⟨fun b _ hb=>hW.block b hb (by omega),fun b hb=>hb.elim⟩;exact ⟨hA.glob.step S,Cl.step S h0⟩
   have hone:=yoo l t ht hl;have hit:=xin (qng l) s l.length cap w hin hone rfl hl (fun i hi=>by rw [znc];have:=(ho2 i (Nat.zero_le _) (by omega)).2;rw [List.getD_eq_getElem?_getD,List.getElem?_eq_getElem hi,Option.getD_some] at this;rw [this]) (fun i hi=>(ho2 i (Nat.zero_le _) (by omega)).1);obtain ⟨q,rfl⟩:=Int.eq_ofNat_of_zero_le hk0;have hov:=ytr l.length (fun k=>topO (stkS (qng l) k)) t.ovr (fun i hi=>by rw [T.xfl (qng l) t ho1 i (by omega)];exact T.xgt t i (by omega)) hl s l.length cap w hit q (by omega);rw [callsIn_wide] at hov;refine hov.mono ?_;rintro e w' ⟨v,m,rfl,hv,hkept⟩;have hsz:=hkept.size;refine ⟨v,rfl,hkept.weak fun _ _ h=>h.elim,fun d=> ?_⟩;have hm:m=((t.ovr ((q:Nat):Int).toNat).map fun (i:Nat)=>(i:Int)).length:=by have:=hv.1;rw [List.length_map] at this;rw [List.length_map,Int.toNat_natCast];omega
   rcases hv.2 with ⟨rfl,h0⟩|⟨g,cp,cur,rfl,hg,hh,hc,hm2,hcs,htk⟩
   ·have hnil:((t.ovr ((q:Nat):Int).toNat).map fun (i:Nat)=>(i:Int))=[]:=List.eq_nil_of_length_eq_zero (by omega);refine ⟨⟨fun _=>none,fun _=>none⟩,?_,fun _=>rfl,fun n b l h=>(by cases h),fun n n' b l l' h=>(by cases h)⟩;exact .inl ⟨rfl,hnil,none,rfl⟩
   ·refine ⟨⟨fun _=>none,fun n=>if n=zbp d 0 0 then some (g,m) else none⟩,?_,fun _=>rfl,fun n b l h=> ?_,fun n n' b l l' h h'=> ?_⟩
    ·refine .inr ⟨g,m,if_pos rfl,hm,cp,cur,by rw [←hm],hh,by rw [←hm];exact hc,hm2,hcs,fun i x hx=> ?_⟩;refine ⟨[.int .i64 x],by rw [Cl],fun j u hu=> ?_⟩;rw [List.getElem?_map] at hx;obtain ⟨n,hn,rfl⟩:=Option.map_eq_some_iff.1 hx;have h2:(List.take (m*1) cur.toList)[i]? =some (.int .i64 (n:Int)):=by rw [htk,List.getElem?_map];rw [Int.toNat_natCast] at hn;rw [hn];rfl
     rw [List.getElem?_take] at h2;split at h2
     ·match j,hu with
      |0,hu=>
       cases hu;rw [Array.getElem?_toList] at h2
       simpa [Ty.sz] using h2
     ·cases h2
    ·simp only at h;split at h
     ·cases h;exact ⟨.inl hg,(Array.getElem?_eq_some_iff.1 hh).1⟩
     ·cases h
    ·simp only at h h';split at h
     ·split at h'
      ·rename_i e1 e2;rw [e1,e2]
      ·cases h'
     ·cases h
  ·cases h
 ·cases h
attribute [local go_sem] Oper.semAt_some
set_option maxHeartbeats 1600000 in
theorem xhf [Dfr] [zdv] {F:Nat→Prop} {w:World} {v vt:Value} {l:List Nd} {t:Tc} (hF:∀b,F b→b<w.heap.size) (hg:zdp E F w) (hc:Cl F w (.slice 68 NdY) l [v]) (ht:Cl F w StY t.1 [vt]) (hl:l.length≤1000000) (h0:chkR l≠0):
 Calls Tryz.prog 24 #[v,.agg #[vt,.int .i64 t.2]] w fun e w'=>∃u,e= .returned (.tuple #[u,.bool (znl l t).2])∧Kept (fun _=>False) w w'∧Cl F w' (.slice 3 (.int .i64)) (znl l t).1 [u]:=by
 have hchk:=zzf l (by omega);rw [qil (fun h=>h0 h.1)];obtain ⟨z,hz⟩:∃z,chkR l=z:=⟨_,rfl⟩;rw [hz] at hchk h0;have kB:=zcc w (Obj.cells #[vt,.int .i64 t.2] 33);have sB:Step F F w (w.alloc (Obj.cells #[vt,.int .i64 t.2] 33)):=zbf kB fun _ h=>h.elim
 have hFB:∀b,F b→b<(w.alloc (Obj.cells #[vt,.int .i64 t.2] 33)).heap.size:=fun b hb=>Nat.lt_of_lt_of_le (hF b hb) kB.size
 obtain ⟨s,c,rfl⟩:=zcz hc;obtain ⟨st,ct,rfl⟩:=zcz ht;go_enter Tryz.func24,Tryz.ntmps24;go_wp2_with (go_at_fn 47);refine (qfp hchk hFB (hg.step sB) (hc.step sB)).mono ?_;rintro e w1 ⟨rfl,hk1⟩;go_wp2;go_ret2;refine ⟨_,rfl,kB.trans hk1 fun _ h=>h.elim,?_⟩;rw [Cl];exact ⟨none,0,rfl,Nat.le_refl _,.inl rfl⟩
theorem ybm [Dfr] [zdv] [zcd] [zdi] [zji] (l:List Nd) (t:Tc) (r:List Int×Bool) (h:zvy l t=some r):zco Tryz.prog E 24 (l,t) r:=by
 unfold zvy at h;split at h
 ·rename_i hc;cases h;intro w F0 G A vs hA;obtain ⟨v0,vt,rfl,h0,ht⟩:∃v0 vt,vs=[v0,.agg #[vt,.int .i64 t.2]]∧Cl (A.F F0) w (.slice 68 NdY) l [v0]∧Cl (A.F F0) w StY t.1 [vt]:=by
   have hr:=hA.rel;cases hr with
   |cons a hr=>cases hr with
    |cons b hr=>
     cases hr;obtain ⟨ws,e,hw⟩:=b;cases hw with
     |cons k0 hw=>cases hw with
      |cons k1 hw=>cases hw;cases k1;exact ⟨_,_,by rw [e],a,k0⟩
  have hF:∀b,A.F F0 b→b<w.heap.size:=fun b hb=>by
   rcases hb with hb|⟨d,hb⟩|⟨n,l,hb⟩
   ·exact (hA.f0 b hb).1
   ·rw [hA.bx] at hb;cases hb
   ·exact (hA.tgm n b l hb).2
  have hcalls:Calls Tryz.prog 24 #[v0,.agg #[vt,.int .i64 t.2]] w fun e w'=>∃u,e= .returned (.tuple #[u,.bool (znl l t).2])∧Kept (fun _=>False) w w'∧Cl (A.F F0) w' (.slice 3 (.int .i64)) (znl l t).1 [u]:=by
   by_cases h2:chkR l=0
   ·obtain ⟨n,rfl,hn⟩:=qch h2;exact xbv hF hA.glob h0 ht hn hc.2.1 hc.2.2
   ·exact xhf hF hA.glob h0 ht hc.1 h2
  refine hcalls.mono ?_;rintro e w' ⟨u,rfl,hk,hu⟩;refine ⟨_,rfl,zml hk,fun d=>⟨⟨fun _=>none,fun _=>none⟩,?_,fun _=>rfl,fun n b l h=>(by cases h),fun n n' b l l' h h'=>(by cases h)⟩⟩;have hu':Cl (Fr.F ⟨fun _=>none,fun _=>none⟩ F0) w' (.slice 3 (.int .i64)) (znl l t).1 [u]:=Cl.lift (fun b hb=>by
   rcases hb with hb|⟨d',hb⟩|⟨n,l',hb⟩
   ·exact .inl hb
   ·cases hb
   ·cases hb) hu
  exact ⟨[u,.bool (znl l t).2],rfl,.cons hu' (.cons rfl .nil)⟩
 ·cases h
@[reducible] def dfr0:Dfr where
 d_plot_Over:=fun _ _=>none
 d_trace_Mix:=fun _ _=>none
 d_move_ways:=none
 d_step_Put:=fun _ _ _=>none
 d_runs_All:=fun _=>none
 d_runs_Find:=fun _ _=>none
theorem ybz:zas Tryz.prog 103:=⟨Tryz.f103,Tryz.func103,by kernel_rfl,by kernel_rfl⟩
theorem ykn:zas Tryz.prog 180:=⟨Tryz.f180,Tryz.func180,by kernel_rfl,by kernel_rfl⟩
theorem yby:zas Tryz.prog 59:=⟨Tryz.f59,Tryz.func59,by kernel_rfl,by kernel_rfl⟩
theorem ykm:zas Tryz.prog 72:=⟨Tryz.f72,Tryz.func72,by kernel_rfl,by kernel_rfl⟩
theorem ykp:zas Tryz.prog 20:=⟨Tryz.f20,Tryz.func20,by kernel_rfl,by kernel_rfl⟩
theorem yca:zas Tryz.prog 24:=⟨Tryz.f24,Tryz.func24,by kernel_rfl,by kernel_rfl⟩
theorem ok0: @zdv dfr0:=
 letI:=dfr0
 {
 c_plot_Over:=⟨ybz,fun x r h=>by cases h⟩
 c_trace_Mix:=⟨ykn,fun x r h=>by cases h⟩
 c_move_ways:=⟨yby,fun x r h=>by cases h⟩
 c_step_Put:=⟨ykm,fun x r h=>by cases h⟩
 c_runs_All:=⟨ykp,fun x r h=>by cases h⟩
 c_runs_Find:=⟨yca,fun x r h=>by cases h⟩
 }
@[reducible] noncomputable def dfr1:Dfr where
 d_plot_Over:=zvr
 d_trace_Mix:=qhx
 d_move_ways:=some tabW
 d_step_Put:=qbu
 d_runs_All:=fun _=>none
 d_runs_Find:=fun _ _=>none
theorem ok1: @zdv dfr1:=
 letI:=dfr1
 {
 c_plot_Over:=⟨ybz,fun x r h=>zgu (@qhv dfr0 ok0 x.1 x.2 r h)⟩
 c_trace_Mix:=⟨ykn,fun x r h=>zgu (@qmb dfr0 ok0 x.1 x.2 r h)⟩
 c_move_ways:=⟨yby,fun x r h=>by cases h;exact @qgc dfr1⟩
 c_step_Put:=⟨ykm,fun x r h=>zgu (@qlv dfr0 ok0 x.1 x.2.1 x.2.2 r h)⟩
 c_runs_All:=⟨ykp,fun x r h=>by cases h⟩
 c_runs_Find:=⟨yca,fun x r h=>by cases h⟩
 }
theorem xje: @zcd dfr1:= @zcd.mk dfr1 fun _ _=>rfl
theorem xid: @zdi dfr1:= @zdi.mk dfr1 rfl
theorem put1: @zji dfr1:= @zji.mk dfr1 fun _ _ _=>rfl
noncomputable instance topDfr:Dfr where
 d_plot_Over:=zvr
 d_trace_Mix:=qhx
 d_move_ways:=some tabW
 d_step_Put:=qbu
 d_runs_All:=zya
 d_runs_Find:=zvy
instance topOK:zdv where
 c_plot_Over:=⟨ybz,fun x r h=>zgu (@qhv dfr0 ok0 x.1 x.2 r h)⟩
 c_trace_Mix:=⟨ykn,fun x r h=>zgu (@qmb dfr0 ok0 x.1 x.2 r h)⟩
 c_move_ways:=⟨yby,fun x r h=>by cases h;exact @qgc topDfr⟩
 c_step_Put:=⟨ykm,fun x r h=>zgu (@qlv dfr0 ok0 x.1 x.2.1 x.2.2 r h)⟩
 c_runs_All:=⟨ykp,fun x r h=>zgu (@ygx dfr1 ok1 xje xid put1 x r h)⟩
 c_runs_Find:=⟨yca,fun x r h=>zgu (@ybm dfr1 ok1 xje xid put1 x.1 x.2 r h)⟩
instance topOver:zcd:=⟨fun _ _=>rfl⟩
instance topMix:xki:=⟨fun _ _=>rfl⟩
instance topWays:zdi:=⟨rfl⟩
instance topPut:zji:=⟨fun _ _ _=>rfl⟩
instance topAll:qmm:=⟨fun _=>rfl⟩
instance topFind:qfs:=⟨fun _ _=>rfl⟩
end Go.Proofs.YtjolkdjkhekbnaaGreatDoor.Sv
