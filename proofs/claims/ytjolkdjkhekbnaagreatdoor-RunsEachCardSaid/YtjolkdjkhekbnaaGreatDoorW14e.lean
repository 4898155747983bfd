/- The law's own alive. -/
import Derived.Test.YtjolkdjkhekbnaaGreatDoorX27
import Derived.Test.YtjolkdjkhekbnaaGreatDoorR11
import Derived.Test.YtjolkdjkhekbnaaGreatDoorL13d
import Derived.Test.YtjolkdjkhekbnaaGreatDoorM18
namespace Go.Proofs.YtjolkdjkhekbnaaGreatDoor.Sv
open Go Go.Sv Go.Rd
def g0:Tm:=.par (.act ⟨#[97]⟩) .yield
def g1:Tm:=.par (.over 1) .yield
theorem ytu [Dfr]:g0.tr=[([⟨#[97]⟩],1),([⟨#[97]⟩],3)]:=by decide +kernel
theorem yvz [Dfr]:g1.tr=[([],1),([],3)]:=by decide +kernel
theorem yuk [Dfr]:setL g0.row:=zxv (by simp only [g0,Tm.fine,Tm.good];decide) (by decide) (by decide) (by unfold g0;rw [Tm.zln,Tm.zvj,Tm.ziw];rfl)
theorem yon [Dfr]:setL g1.row:=zxv (by simp only [g1,Tm.fine,Tm.good];decide) (by decide) (by decide) (by unfold g1;rw [Tm.zln,Tm.zfb,Tm.ziw];rfl)
theorem yaw [Dfr]:enL g0.row=[(1,1),(2,4),(2,5)]:=by
 rw [qhq (show tree g0.row=some g0.t from znu (Tm.t_ok g0)) yuk]
 unfold mvsT
 rw [show g0.t.wts 0=[1,2] by decide]
 rfl
theorem qsu [Dfr]:enL g1.row=[(2,4),(2,5)]:=by
 rw [qhq (show tree g1.row=some g1.t from znu (Tm.t_ok g1)) yon]
 unfold mvsT
 rw [show g1.t.wts 0=[2] by decide]
 rfl
theorem qoc [Dfr]:zds g0.row (1,1)=(g1.row,⟨#[97]⟩,0):=by
 unfold zds
 rw [if_pos (by rw [yaw];decide)]
 have e:putR g0.row ((1,1):Mv).1 (znq (g0.row.drop ((1,1):Mv).1.toNat) ((1,1):Mv).2)=g1.row:=by decide
 rw [e,yon.2]
 rfl
theorem ysn [Dfr]:zds g1.row (2,4)=((Tm.over 1).row,⟨#[]⟩,0):=by
 unfold zds
 rw [if_pos (by rw [qsu];decide)]
 have e:putR g1.row ((2,4):Mv).1 (znq (g1.row.drop ((2,4):Mv).1.toNat) ((2,4):Mv).2)=(Tm.par (.over 1) (.over 1)).row:=by decide
 rw [e,zmw (by simp only [Tm.fine,Tm.good];decide) (by decide) (by decide),Tm.zln,Tm.zfb]
 rfl
theorem qvb [Dfr]:zds g1.row (2,5)=((Tm.over 3).row,⟨#[]⟩,0):=by
 unfold zds
 rw [if_pos (by rw [qsu];decide)]
 have e:putR g1.row ((2,5):Mv).1 (znq (g1.row.drop ((2,5):Mv).1.toNat) ((2,5):Mv).2)=(Tm.par (.over 1) (.over 3)).row:=by decide
 rw [e,zmw (by simp only [Tm.fine,Tm.good];decide) (by decide) (by decide),Tm.zln,Tm.zfb,Tm.zfb]
 rfl
theorem qol [Dfr]:Good g0:=⟨by simp only [g0,Tm.fine,Tm.good];decide,by unfold g0;rw [Tm.zln,Tm.zvj,Tm.ziw];rfl,by decide,by unfold Tm.small;decide⟩
theorem ysf [Dfr]:qdc g0.row [] 0 [0,1,7]=((Tm.over 3).row,[⟨#[97]⟩],2):=by
 have p0:zmy (enL g0.row) 0=((1,1),0):=by rw [yaw];rfl
 have p1:zmy (enL g1.row) 1=((2,5),0):=by rw [qsu];rfl
 have p2:zmy (enL (Tm.over 3).row) 7=((0,0),120):=by rw [yfc];rfl
 simp only [qdc,p0,p1,p2,qoc,qvb,if_true,if_pos,List.nil_append]
 rfl
theorem yly [Dfr]:qdc g0.row [] 0 [0]=(g1.row,[⟨#[97]⟩],1):=by
 have p0:zmy (enL g0.row) 0=((1,1),0):=by rw [yaw];rfl
 simp only [qdc,p0,qoc,if_true,if_pos,List.nil_append]
 rfl
theorem ynp [Dfr]:chkR [(2,ByteArray.empty,0)]=1:=by
 have e:zbw Tm.skip.row=(Tm.over 1).row:=by rw [zmw (by simp only [Tm.fine,Tm.good]) (by decide) (by decide),Tm.zqu]
 unfold chkR
 split
 ·rw [if_neg]
  rintro ⟨_,h⟩
  have h2:zbw Tm.skip.row=Tm.skip.row:=h
  rw [e] at h2
  revert h2
  decide
 ·rfl
theorem ylz [Dfr]:zlj g0.row ([⟨#[97]⟩],3)=([0,1],true):=by
 have hm:([⟨#[97]⟩],3)∈g0.tr:=by rw [ytu];decide
 rw [ztp ⟨zzg qol,by rw [zgd qol];exact hm⟩]
 have hc:cntW g0.row=2:=by decide
 rw [hc]
 have g1f:trL g1.row=[([],1),([],3)]:=by rw [qeq (by simp only [g1,Tm.fine,Tm.good];decide) (by decide),yvz]
 have ov1:trL (Tm.over 1).row=[([],1)]:=qeq (by simp only [Tm.fine,Tm.good];decide) (by decide)
 have ov3:trL (Tm.over 3).row=[([],3)]:=qeq (by simp only [Tm.fine,Tm.good];decide) (by decide)
 have r0:zmb ([⟨#[97]⟩],3) ⟨#[97]⟩=(([],3),true):=by decide
 have r1:zmb ([],3) ⟨#[]⟩=(([],3),true):=by decide
 have k0:(enL g0.row)[0]'(by rw [yaw];decide)=(1,1):=by simp only [yaw];rfl
 have k1:(enL g1.row)[0]'(by rw [qsu];decide)=(2,4):=by simp only [qsu];rfl
 have k2:(enL g1.row)[1]'(by rw [qsu];decide)=(2,5):=by simp only [qsu];rfl
 have h0:hitR g0.row ([⟨#[97]⟩],3) (1,1):=by
  unfold hitR
  rw [qoc,r0,g1f]
  decide
 have h1:¬hitR g1.row ([],3) (2,4):=by
  unfold hitR
  rw [ysn,r1,ov1]
  decide
 have h2:hitR g1.row ([],3) (2,5):=by
  unfold hitR
  rw [qvb,r1,ov3]
  decide
 have e0:=qny (c:=2) (l:=g0.row) (t:=([⟨#[97]⟩],3)) (k:=0) (by rw [yaw];decide) (by rw [k0];exact h0) (fun j hj=>absurd hj (Nat.not_lt_zero _))
 have e1:=qny (c:=1) (l:=g1.row) (t:=([],3)) (k:=1) (by rw [qsu];decide) (by rw [k2];exact h2) (fun j hj=>by
  obtain rfl:j=0:=by omega
  rw [k1];exact h1)
 rw [k0,qoc,r0] at e0
 rw [k2,qvb,r1] at e1
 rw [e0]
 show (_,true)=_
 rw [e1,qaq]
 rfl
theorem zjg [Dfr] [zcd] [zdz] [zjx] [qcu] [zxj]:zic=some true:=by
 have eg:([(7,ByteArray.empty,0),(1,⟨#[97]⟩,0),(4,ByteArray.empty,0)]:List Nd)=g0.row:=rfl
 have a0:zrh g0.row=some (g0.tr,0):=by
  rw [zwn,qcu.all]
  unfold zrz allR
  rw [if_pos ⟨by decide,by decide⟩,zzg qol,if_pos rfl,zgd qol]
 have a1:zrh [(2,ByteArray.empty,0)]=some ([],1):=by
  rw [zwn,qcu.all]
  unfold zrz allR
  rw [if_pos ⟨by decide,by decide⟩,ynp,if_neg (by decide)]
 have f0:zmx g0.row ([⟨#[97]⟩],3)=some ([0,1],true):=by
  rw [qbz,zxj.find]
  unfold zqi
  rw [if_pos ⟨by decide,by decide,by decide⟩,ylz]
 have t0:qep ((Tm.over 3).row,[⟨#[97]⟩],2)=(([⟨#[97]⟩],3),true):=rfl
 have t1:qep (g1.row,[⟨#[97]⟩],1)=(([],0),false):=rfl
 have x0:qaf ([⟨#[97]⟩],3)=some ⟨#[97,32,63]⟩:=((qiu _).iff _).2 ⟨40,by kernel_rfl⟩
 have i0:zuk [0,1] [0,1]=some true:=by rw [qrg _ _ (by decide),decide_eq_true rfl]
 rw [qjv,eg]
 simp only [zwl _ _ (show g0.row.length≤400000 by decide) (show ([0,1,7]:List Int).length≤1000000 by decide),zwl _ _ (show g0.row.length≤400000 by decide) (show ([0]:List Int).length≤1000000 by decide),ysf,yly,Option.bind_some,
  zsw _ (show ((Tm.over 3).row,([⟨#[97]⟩]:List ByteArray),(2:Int)).2.1.length≤1000000 by decide),zsw _ (show (g1.row,([⟨#[97]⟩]:List ByteArray),(1:Int)).2.1.length≤1000000 by decide),t0,t1,a0,a1,f0,x0,i0,ytu,beq_self_eq_true,cond_true]
 rfl
theorem ytq [Dfr] {l:List Nd} (hl:yjp l):l.length≤4611686018427387904:=Nat.le_trans hl.1 (by decide)
theorem qzq [Dfr] [qcu] (l:List Nd) (hl:l.length≤1000000) (h8:cntW l≤8):zrh l=some (allR l):=by
 rw [zwn,qcu.all]
 unfold zrz
 rw [if_pos ⟨hl,h8⟩]
theorem zwm [Dfr] [zxj] (l:List Nd) (t:Tc) (hl:l.length≤1000000) (h8:cntW l≤8) (ht:t.1.length≤1000000):zmx l t=some (zlj l t):=by
 rw [qbz,zxj.find]
 unfold zqi
 rw [if_pos ⟨hl,h8,ht⟩]
def EndT (n:Tm):Prop:=n.fine∧n.st=n∧n.po=true∧n.okB=true∧n.size≤200
theorem EndT.set [Dfr] {n:Tm} (h:EndT n):setL n.row:=zxv h.1 h.2.2.2.2 (.inl h.2.2.1) h.2.1
theorem qzc [Dfr] (n:Tm) (A:List ByteArray) (z:Int):qep (n.row,A,z)=match n with| .over s=>((A,s),true)|_=>(([],0),false):=by
 have e:=(zos n.row).symm.trans (zfq n)
 have e2:=Option.some.inj e
 unfold qep
 simp only
 revert e2
 generalize n.row=l
 intro e2
 match l,e2 with
 |[],e2 =>
  simp only at e2 ⊢
  cases n<;>first|rfl|(cases e2)
 |[x],e2 =>
  simp only at e2 ⊢
  by_cases h:x.1=11
  ·rw [if_pos h] at e2 ⊢
   cases n<;>first|(cases e2;done)|(have:=congrArg Prod.fst e2;simp only at this;subst this;rfl)|(have:=congrArg Prod.snd e2;cases this)
  ·rw [if_neg h] at e2 ⊢
   cases n<;>first|rfl|(have:=congrArg Prod.snd e2;cases this)
 |_::_::_,e2 =>
  simp only at e2 ⊢
  cases n<;>first|rfl|(have:=congrArg Prod.snd e2;cases this)
theorem yne [Dfr] {n:Tm} (hg:Good n) (ho:n.zhh=false) {t:Tc} (ht:t∈n.tr):∃(k:Nat) (hk:k<(enL n.row).length) (n':Tm),zto n.row t=some k∧(zds n.row (enL n.row)[k]).1=n'.row∧Good n'∧cntW n'.row<cntW n.row∧
 (zmb t (zds n.row (enL n.row)[k]).2.1).2=true∧(zmb t (zds n.row (enL n.row)[k]).2.1).1∈n'.tr∧(decide ((zds n.row (enL n.row)[k]).2.1=⟨#[]⟩)= !decide ((enL n.row)[k].2=1))∧
 ∀c,picks (c+1) n.row t=(k:Int)::picks c n'.row (zmb t (zds n.row (enL n.row)[k]).2.1).1:=by
 cases hf:zto n.row t with
 |none =>
  exfalso
  obtain ⟨mv,h1,h2⟩:=(yqa hg ho).1 ht
  have:=(List.findIdx?_eq_none_iff.1 hf) mv h1
  rw [qdw.2 h2] at this
  cases this
 |some k =>
  obtain ⟨hk,hh,_⟩:=List.findIdx?_eq_some_iff_getElem.1 hf
  have hm:(enL n.row)[k]∈enL n.row:=List.getElem_mem hk
  obtain ⟨n',e1,_,hg',hc,_,_,_⟩:=ztm hg hm
  obtain ⟨_,_,_,hnm⟩:=qgr hm
  obtain ⟨h1,h2⟩:=qdw.1 hh
  rw [e1,zgd hg'] at h2
  refine ⟨k,hk,n',rfl,e1,hg',hc,h1,h2,hnm,fun c=> ?_⟩
  have e:(enL n.row).getD k default=(enL n.row)[k]:=by rw [List.getD_eq_getElem?_getD,List.getElem?_eq_getElem hk];rfl
  show (match zto n.row t with|none=>[]|some k=>_)=_
  rw [hf]
  simp only [e,e1]
theorem qrq [Dfr]:∀(c:Nat) (l:List Nd) (t:Tc),(picks c l t).length≤c
 |0,_,_=>Nat.le_refl _
 |c+1,l,t=>by
  show (match zto l t with|none=>[]|some k=>_:List Int).length≤_
  cases zto l t with
  |none=>exact Nat.zero_le _
  |some k =>
   simp only [List.length_cons]
   have:=qrq c (zds l ((enL l).getD k default)).1 (zmb t (zds l ((enL l).getD k default)).2.1).1
   omega
theorem yma [Dfr] {L:List Mv} {k:Nat} (hk:k<L.length):zmy L (k:Int)=(L[k],0):=by
 have hne:L≠[]:=fun h=>by rw [h] at hk;simp at hk
 unfold zmy
 have e:qrr (k:Int) L.length=k:=by
  unfold qrr
  rw [Int.tmod_eq_of_lt (by omega) (by omega),if_neg (by omega)]
  omega
 rw [if_neg hne,e,List.getD_eq_getElem?_getD,List.getElem?_eq_getElem hk]
 rfl
theorem ysi [Dfr] {n:Tm} (h:n.zhh=true):∃s,n= .over s:=by
 cases n<;>first|exact ⟨_,rfl⟩|cases h
theorem ykx [Dfr] {t:Tc} {nm:ByteArray} (h:(zmb t nm).2=true):t.1=(if nm=(⟨#[]⟩:ByteArray) then [] else [nm])++(zmb t nm).1.1∧(zmb t nm).1.2=t.2:=by
 obtain ⟨A,s⟩:=t
 unfold zmb at h ⊢
 by_cases hn:nm=(⟨#[]⟩:ByteArray)
 ·simp [hn]
 ·simp only [if_neg hn] at h ⊢
  cases A with
  |nil=>cases h
  |cons a r =>
   by_cases ha:a=nm
   ·simp [ha]
   ·simp only [if_neg ha] at h
    cases h
theorem qku [Dfr]:∀(c:Nat) (n:Tm) (t:Tc) (A:List ByteArray) (k:Int),Good n→t∈n.tr→cntW n.row<c→qdc n.row A k (picks c n.row t)=((Tm.over t.2).row,A++t.1,k+((picks c n.row t).length:Int))
 |0,_,_,_,_,_,_,h=>absurd h (Nat.not_lt_zero _)
 |c+1,n,t,A,k,hg,ht,hc=>by
  cases ho:n.zhh with
  |true =>
   obtain ⟨s,rfl⟩:=ysi ho
   have ht2:t∈([([],s)]:List Tc):=ht
   obtain rfl:=List.mem_singleton.1 ht2
   rw [qaq,qdc]
   simp
  |false =>
   obtain ⟨j,hj,n',hf,e1,hg',hcn,h1,h2,hnm,hp⟩:=yne hg ho ht
   rw [hp c,qdc,yma hj,if_pos rfl]
   have ih:=qku c n' (zmb t (zds n.row (enL n.row)[j]).2.1).1 (if (enL n.row)[j].2=1 then A++[(zds n.row (enL n.row)[j]).2.1] else A) (k+1) hg' h2 (by omega)
   obtain ⟨r1,r2⟩:=ykx h1
   simp only [e1]
   rw [ih,r2]
   have hA:(if (enL n.row)[j].2=1 then A++[(zds n.row (enL n.row)[j]).2.1] else A)++(zmb t (zds n.row (enL n.row)[j]).2.1).1.1=A++t.1:=by
    rw [r1]
    by_cases hw:(enL n.row)[j].2=1
    ·rw [decide_eq_true hw] at hnm
     rw [if_pos hw,if_neg (of_decide_eq_false hnm),List.append_assoc]
    ·rw [decide_eq_false hw] at hnm
     rw [if_neg hw,if_pos (of_decide_eq_true hnm),List.nil_append]
   rw [hA]
   congr 2
   simp only [List.length_cons]
   omega
theorem ynn [Dfr] (t:Tc):cmpT t t= .eq:=(ordT.eq t t).2 rfl
theorem ygs [Dfr] (l:List Nd) (t:Tc) (h8:cntW l≤8):(zlj l t).1.length≤9:=by
 unfold zlj
 split
 ·have:=qrq (cntW l+1) l t
  simp only
  omega
 ·simp
theorem yav [Dfr] {l:List Nd} {t:Tc} (h:(zlj l t).2=true):qdc l [] 0 (zlj l t).1=((Tm.over t.2).row,t.1,((zlj l t).1.length:Int)):=by
 by_cases h2:chkR l=0∧t∈trL l
 ·obtain ⟨n,rfl,hg⟩:=qee h2.1
  have ht:t∈n.tr:=by rw [←zgd hg];exact h2.2
  rw [ztp h2]
  have:=qku (cntW n.row+1) n t [] 0 hg ht (Nat.lt_succ_self _)
  rw [this]
  simp
 ·rw [zzl h2] at h
  cases h
theorem qzb [Dfr] (s:Int) (A:List ByteArray) (z:Int):qep ((Tm.over s).row,A,z)=((A,s),true):=by rw [qzc]
theorem zoe [Dfr] [zcd] [zdz] [zjx] [qcu] [zxj] {n:Tm} (hg:Good n) (h8:cntW n.row≤8) (y3:Tc) (y4:Bool) (y5:List Tc):∀(r:List Tc) (i:Nat),n.tr.drop i=r→zha n.row y3 y4 y5 n.tr (n.tr.length:Int) (i:Int)=some (0,(n.row,y3,y4,y5))
 |[],i,h=>by
  obtain ⟨h1,h2⟩:=drop_nil h
  rw [zlp]
  simp only [h2,cond_false]
 |x::r,i,h=>by
  obtain ⟨h1,h2,h3,h4,h5,h6⟩:=zan h
  have hx:x∈n.tr:=List.mem_of_mem_drop (by rw [h];exact List.mem_cons_self ..)
  have hxl:=zny hg.2.2.2 x hx
  have hln:=qag hg h8
  have hlen:=hg.len
  have hfl:=ygs n.row x h8
  have hyes:(zlj n.row x).2=true:=by rw [ztp ⟨zzg hg,by rw [zgd hg];exact hx⟩]
  have hp:=yav hyes
  rw [zlp]
  simp only [h2,h3,h4,cond_true,zwm n.row x (by omega) h8 (by omega),Option.bind_some,zwl n.row (zlj n.row x).1 (by omega) (by omega),hp,zsw ((Tm.over x.2).row,x.1,((zlj n.row x).1.length:Int)) (by simp only;omega),qzb,hyes,Bool.not_true,cond_false,
   qeo (x.1,x.2) x (by simp only;omega),ynn,ordN,bne_self_eq_false,zen (show i<9223372036854775807 by omega)]
  exact zoe hg h8 y3 y4 y5 r (i+1) h5
theorem znd [Dfr] [zcd] [zdz] [zjx] [qcu] [zxj] (l:List Nd) (t:Tc) (hl:yjp l) (ht:(Ty.pair (.slice 9 .str) (.int .i64)).wf t):zvs l t=some true:=by
 rw [qay,qju l (ytq hl),Option.bind_some]
 by_cases hf:(l.length≤100∧dep l≤24)∧cntW l≤8
 ·rw [decide_eq_true hf,Bool.not_true,cond_false,zrj l [1] (by omega) (by decide),Option.bind_some]
  obtain ⟨c,hc⟩:∃c,decide (((l.countP (fun x=>decide (x.1∈([1]:List Int))):Nat):Int)>4)=c:=⟨_,rfl⟩
  rw [hc]
  cases c with
  |true=>simp only [cond_true,zjg,Option.bind_some]
  |false =>
   rw [cond_false]
   by_cases h100:t.1.length≤100
   ·rw [decide_eq_false (show ¬(t.1.length:Int)>100 by omega),cond_false]
    simp only [qzq l (by omega) hf.2,Option.bind_some]
    by_cases h:chkR l=0
    ·obtain ⟨n,rfl,hg⟩:=qee h
     have hln:=qag hg hf.2
     have hsh:zyf n.tr:=fewT.short fun x hx=>Nat.le_trans (zny hg.2.2.2 x hx) (by decide)
     have ha:allR n.row=(n.tr,0):=by
      unfold allR
      rw [if_pos h,zgd hg]
     have e:=zoe hg hf.2 t false n.tr n.tr 0 rfl
     rw [Int.natCast_zero] at e
     have hfd:(zlj n.row t).2=decide (t∈n.tr):=by
      by_cases hx:t∈n.tr
      ·rw [ztp ⟨h,by rw [zgd hg];exact hx⟩,decide_eq_true hx]
      ·rw [zzl (fun h2=>hx (by rw [←zgd hg];exact h2.2)),decide_eq_false hx]
     simp only [ha,bne_self_eq_false,cond_false,e,Option.bind_some,Nat.beq,cond_true,zwm n.row t (by omega) hf.2 (by omega),zjg,zwd n.tr t (by omega) hsh,hfd,beq_self_eq_true]
    ·have hb:((allR l).2 != 0)=true:=by
      unfold allR
      rw [if_neg h,bne_iff_ne]
      exact h
     simp only [hb,cond_true,zwm l t (by omega) hf.2 (by omega),zjg,Option.bind_some,zzl (fun h2=>h h2.1),Bool.not_false]
   ·rw [decide_eq_true (show (t.1.length:Int)>100 by omega)]
    simp only [cond_true,zjg,Option.bind_some]
 ·rw [decide_eq_false hf]
  simp only [Bool.not_false,cond_true,zjg,Option.bind_some]
end Go.Proofs.YtjolkdjkhekbnaaGreatDoor.Sv
