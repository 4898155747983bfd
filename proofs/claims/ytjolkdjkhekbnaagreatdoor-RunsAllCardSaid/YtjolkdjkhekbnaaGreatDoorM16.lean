/- Places of a term as contexts: what stands around a waiting place, what comes of it. Plain Lean, no program in sight. -/
import Derived.Test.YtjolkdjkhekbnaaGreatDoorX17
set_option linter.unusedVariables false
set_option linter.unusedSimpArgs false
namespace Go.Rd
open Go Go.Sv
inductive Cx where
 |hole
 |seq (c:Cx) (b:Tm)
 |hand (c:Cx) (b:Tm)
 |going (c:Cx) (b:Tm)
 |stack (c:Cx) (b:Tm)
 |parL (c:Cx) (b:Tm)
 |parR (a:Tm) (c:Cx)
 |block (c:Cx)
namespace Cx
def fill:Cx→Tm→Tm
 |hole,x=>x
 |seq c b,x=>.seq (c.fill x) b
 |hand c b,x=>.hand (c.fill x) b
 |going c b,x=>.going (c.fill x) b
 |stack c b,x=>.stack (c.fill x) b
 |parL c b,x=>.par (c.fill x) b
 |parR a c,x=>.par a (c.fill x)
 |block c,x=>.block (c.fill x)
def pos:Cx→Nat
 |hole=>0
 |seq c _=>c.pos+1
 |hand c _=>c.pos+1
 |going c _=>c.pos+1
 |stack c _=>c.pos+1
 |parL c _=>c.pos+1
 |parR a c=>c.pos+1+a.size
 |block c=>c.pos+1
theorem zkt:∀c:Cx,∃A B:List Nd,A.length=c.pos∧∀x:Tm,(c.fill x).row=A++(x.row++B)
 |hole=>⟨[],[],rfl,fun x=>by simp [fill]⟩
 |seq c b=>by obtain ⟨A,B,h1,h2⟩:=zkt c;exact ⟨nd 5::A,B++b.row,by simp [pos,h1],fun x=>by simp [fill,Tm.yhw,h2]⟩
 |hand c b=>by obtain ⟨A,B,h1,h2⟩:=zkt c;exact ⟨nd 8::A,B++b.row,by simp [pos,h1],fun x=>by simp [fill,Tm.qze,h2]⟩
 |going c b=>by obtain ⟨A,B,h1,h2⟩:=zkt c;exact ⟨nd 12::A,B++b.row,by simp [pos,h1],fun x=>by simp [fill,Tm.qqc,h2]⟩
 |stack c b=>by obtain ⟨A,B,h1,h2⟩:=zkt c;exact ⟨nd 13::A,B++b.row,by simp [pos,h1],fun x=>by simp [fill,Tm.qpy,h2]⟩
 |parL c b=>by obtain ⟨A,B,h1,h2⟩:=zkt c;exact ⟨nd 7::A,B++b.row,by simp [pos,h1],fun x=>by simp [fill,Tm.qzd,h2]⟩
 |parR a c=>by obtain ⟨A,B,h1,h2⟩:=zkt c;exact ⟨nd 7::(a.row++A),B,by simp only [List.length_cons,List.length_append,Tm.zac,pos,h1];omega,fun x=>by simp [fill,Tm.qzd,h2]⟩
 |block c=>by obtain ⟨A,B,h1,h2⟩:=zkt c;exact ⟨nd 9::A,B,by simp [pos,h1],fun x=>by simp [fill,Tm.zvb,h2]⟩
theorem yvl (c:Cx) (x y:Tm):(c.fill x).size+y.size=(c.fill y).size+x.size:=by obtain ⟨A,B,h1,h2⟩:=zkt c;have e1:=congrArg List.length (h2 x);have e2:=congrArg List.length (h2 y);simp only [List.length_append,Tm.zac] at e1 e2;omega
theorem zdm:∀(c:Cx) {u x:Tm},(c.fill u).fine→(x.fine→(c.fill x).fine)∧u.fine
 |hole,u,x,h=>⟨fun k=>k,h⟩
 |seq c b,u,x,h=>⟨fun k=>⟨(zdm c h.1).1 k,h.2⟩,(zdm c (x:=x) h.1).2⟩
 |hand c b,u,x,h=>⟨fun k=>⟨(zdm c h.1).1 k,h.2⟩,(zdm c (x:=x) h.1).2⟩
 |going c b,u,x,h=>⟨fun k=>⟨(zdm c h.1).1 k,h.2⟩,(zdm c (x:=x) h.1).2⟩
 |stack c b,u,x,h=>⟨fun k=>⟨(zdm c h.1).1 k,h.2⟩,(zdm c (x:=x) h.1).2⟩
 |parL c b,u,x,h=>⟨fun k=>⟨(zdm c h.1).1 k,h.2⟩,(zdm c (x:=x) h.1).2⟩
 |parR a c,u,x,h=>⟨fun k=>⟨h.1,(zdm c h.2).1 k⟩,(zdm c (x:=x) h.2).2⟩
 |block c,u,x,h=>⟨fun k=>(zdm c (u:=u) h).1 k,(zdm c (x:=x) (u:=u) h).2⟩
theorem zou {u x:Tm} (h1:u.po=true→x.po=true) (h2:u.qo=true→x.qo=true):∀c:Cx,((c.fill u).po=true→(c.fill x).po=true)∧((c.fill u).qo=true→(c.fill x).qo=true)
 |hole=>⟨h1,h2⟩
 |seq c b=>by obtain ⟨k1,k2⟩:=zou h1 h2 c;simp only [fill,Tm.po,Tm.qo,Bool.and_eq_true];exact ⟨fun h=>⟨k1 h.1,h.2⟩,fun h=>⟨k2 h.1,h.2⟩⟩
 |hand c b=>by obtain ⟨k1,k2⟩:=zou h1 h2 c;simp only [fill,Tm.po,Tm.qo,Bool.and_eq_true];exact ⟨fun h=>⟨k1 h.1,h.2⟩,fun h=>h⟩
 |going c b=>by obtain ⟨k1,k2⟩:=zou h1 h2 c;simp only [fill,Tm.po,Tm.qo,Bool.and_eq_true];exact ⟨fun h=>h,fun h=>⟨k1 h.1,h.2⟩⟩
 |stack c b=>by obtain ⟨k1,k2⟩:=zou h1 h2 c;simp only [fill,Tm.po,Tm.qo,Bool.and_eq_true];exact ⟨fun h=>h,fun h=>⟨k2 h.1,h.2⟩⟩
 |parL c b=>by obtain ⟨k1,k2⟩:=zou h1 h2 c;simp only [fill,Tm.po,Tm.qo,Bool.and_eq_true];exact ⟨fun h=>⟨k1 h.1,h.2⟩,fun h=>⟨k2 h.1,h.2⟩⟩
 |parR a c=>by obtain ⟨k1,k2⟩:=zou h1 h2 c;simp only [fill,Tm.po,Tm.qo,Bool.and_eq_true];exact ⟨fun h=>⟨h.1,k1 h.2⟩,fun h=>⟨h.1,k2 h.2⟩⟩
 |block c=>by obtain ⟨k1,k2⟩:=zou h1 h2 c;simp only [fill,Tm.po,Tm.qo];exact ⟨k2,fun h=>h⟩
theorem qlz:∀(m:Tm) (i k:Nat),k∈m.t.wts i→∃(c:Cx) (u:Tm),m=c.fill u∧u.Wt∧k=i+c.pos
 | .act s,i,k,h=>⟨hole,.act s,rfl,.inl ⟨s,rfl⟩,by simpa [Tm.t,T.wts,zdo,pos] using h⟩
 | .yield,i,k,h=>⟨hole,.yield,rfl,.inr (.inr (.inl rfl)),by simpa [Tm.t,T.wts,zdo,pos] using h⟩
 | .alt a b,i,k,h=>⟨hole,.alt a b,rfl,.inr (.inl ⟨a,b,rfl⟩),by simpa [Tm.t,T.wts,zdo,pos] using h⟩
 | .pair a b,i,k,h=>⟨hole,.pair a b,rfl,.inr (.inr (.inr ⟨a,b,rfl⟩)),by simpa [Tm.t,T.wts,zdo,pos] using h⟩
 | .skip,i,k,h=>by simp [Tm.t,T.wts,zdo] at h
 | .throw,i,k,h=>by simp [Tm.t,T.wts,zdo] at h
 | .over s,i,k,h=>by simp [Tm.t,T.wts,zdo] at h
 | .fin s a,i,k,h=>by simp [Tm.t,T.wts,zdo,goK] at h
 | .seq a b,i,k,h=>by obtain ⟨c,u,rfl,h2,rfl⟩:=qlz a (i+1) k (by simpa [Tm.t,T.wts,zdo,goK] using h);exact ⟨seq c b,u,rfl,h2,by simp only [pos];omega⟩
 | .hand a b,i,k,h=>by obtain ⟨c,u,rfl,h2,rfl⟩:=qlz a (i+1) k (by simpa [Tm.t,T.wts,zdo,goK] using h);exact ⟨hand c b,u,rfl,h2,by simp only [pos];omega⟩
 | .going a b,i,k,h=>by obtain ⟨c,u,rfl,h2,rfl⟩:=qlz a (i+1) k (by simpa [Tm.t,T.wts,zdo,goK] using h);exact ⟨going c b,u,rfl,h2,by simp only [pos];omega⟩
 | .stack a b,i,k,h=>by obtain ⟨c,u,rfl,h2,rfl⟩:=qlz a (i+1) k (by simpa [Tm.t,T.wts,zdo,goK] using h);exact ⟨stack c b,u,rfl,h2,by simp only [pos];omega⟩
 | .block a,i,k,h=>by obtain ⟨c,u,rfl,h2,rfl⟩:=qlz a (i+1) k (by simpa [Tm.t,T.wts,zdo,goK] using h);exact ⟨block c,u,rfl,h2,by simp only [pos];omega⟩
 | .par a b,i,k,h=>by
   have h':k∈a.t.wts (i+1)∨k∈b.t.wts (i+1+a.t.size):=by simpa [Tm.t,T.wts,zdo,goK] using h
   rcases h' with h'|h'
   ·obtain ⟨c,u,rfl,h2,rfl⟩:=qlz a (i+1) k h';exact ⟨parL c b,u,rfl,h2,by simp only [pos];omega⟩
   ·obtain ⟨c,u,rfl,h2,rfl⟩:=qlz b (i+1+a.t.size) k h';exact ⟨parR a c,u,rfl,h2,by simp only [pos,Tm.size];omega⟩
theorem qks {u:Tm} (hu:u.Wt):∀(c:Cx) (i:Nat),i+c.pos∈(c.fill u).t.wts i
 |hole,i=>by rcases hu with ⟨s,rfl⟩|⟨a,b,rfl⟩|rfl|⟨a,b,rfl⟩<;>simp [fill,pos,Tm.t,T.wts,zdo]
 |seq c b,i=>by
  have:=qks hu c (i+1);rw [show i+(seq c b).pos=i+1+c.pos by simp only [pos];omega]
  simpa [fill,Tm.t,T.wts,zdo,goK] using this
 |hand c b,i=>by
  have:=qks hu c (i+1);rw [show i+(hand c b).pos=i+1+c.pos by simp only [pos];omega]
  simpa [fill,Tm.t,T.wts,zdo,goK] using this
 |going c b,i=>by
  have:=qks hu c (i+1);rw [show i+(going c b).pos=i+1+c.pos by simp only [pos];omega]
  simpa [fill,Tm.t,T.wts,zdo,goK] using this
 |stack c b,i=>by
  have:=qks hu c (i+1);rw [show i+(stack c b).pos=i+1+c.pos by simp only [pos];omega]
  simpa [fill,Tm.t,T.wts,zdo,goK] using this
 |block c,i=>by
  have:=qks hu c (i+1);rw [show i+(block c).pos=i+1+c.pos by simp only [pos];omega]
  simpa [fill,Tm.t,T.wts,zdo,goK] using this
 |parL c b,i=>by have:=qks hu c (i+1);rw [show i+(parL c b).pos=i+1+c.pos by simp only [pos];omega];simp [fill,Tm.t,T.wts,zdo,goK];exact .inl this
 |parR a c,i=>by have:=qks hu c (i+1+a.t.size);rw [show i+(parR a c).pos=i+1+a.t.size+c.pos by simp only [pos,Tm.size];omega];simp [fill,Tm.t,T.wts,zdo,goK];exact .inr this
def bsd:Cx→List (List Nd)×Bool
 |hole=>([],false)
 |seq c _=>c.bsd
 |hand c _=>c.bsd
 |going c _=>c.bsd
 |stack c _=>c.bsd
 |parL c b=>if c.bsd.2=true then (c.bsd.1,true) else (c.bsd.1++[b.row],false)
 |parR a c=>if c.bsd.2=true then (c.bsd.1,true) else (c.bsd.1++[a.row],false)
 |block c=>(c.bsd.1,true)
theorem ytm (t:T) (i:Nat):t.path i i=[]:=by
 cases t with
 |n0 n=>rfl
 |n1 n a=>rw [T.zpb,if_pos rfl]
 |n2 n a b=>rw [T.zgm,if_pos rfl]
theorem yey (u:Tm):∀c:Cx,c.pos<(c.fill u).size:=fun c=>by obtain ⟨A,B,h1,h2⟩:=zkt c;have e1:=congrArg List.length (h2 u);have h3:=u.zda;simp only [List.length_append,Tm.zac] at e1;omega
theorem ztf (u:Tm):∀(c:Cx) (i:Nat),zaq ((c.fill u).t.path i (i+c.pos))=c.bsd
 |hole,i=>by show zaq (u.t.path i (i+0))=_;rw [Nat.add_zero,ytm];rfl
 |seq c b,i=>by
  have ih:=ztf u c (i+1);have hl:=yey u c;have e:i+(seq c b).pos=i+1+c.pos:=by simp only [pos];omega
  show zaq ((T.n2 (nd 5) (c.fill u).t b.t).path i _)=_;rw [e,T.zgm,if_neg (by omega),if_pos (by unfold Tm.size at hl;omega),zaq,ih];show (if c.bsd.2=true then (c.bsd.1,true) else (c.bsd.1,false))=c.bsd;split<;>rename_i h<;>exact Prod.ext rfl (by simp [h])
 |hand c b,i=>by
  have ih:=ztf u c (i+1);have hl:=yey u c;have e:i+(hand c b).pos=i+1+c.pos:=by simp only [pos];omega
  show zaq ((T.n2 (nd 8) (c.fill u).t b.t).path i _)=_;rw [e,T.zgm,if_neg (by omega),if_pos (by unfold Tm.size at hl;omega),zaq,ih];show (if c.bsd.2=true then (c.bsd.1,true) else (c.bsd.1,false))=c.bsd;split<;>rename_i h<;>exact Prod.ext rfl (by simp [h])
 |going c b,i=>by
  have ih:=ztf u c (i+1);have hl:=yey u c;have e:i+(going c b).pos=i+1+c.pos:=by simp only [pos];omega
  show zaq ((T.n2 (nd 12) (c.fill u).t b.t).path i _)=_;rw [e,T.zgm,if_neg (by omega),if_pos (by unfold Tm.size at hl;omega),zaq,ih];show (if c.bsd.2=true then (c.bsd.1,true) else (c.bsd.1,false))=c.bsd;split<;>rename_i h<;>exact Prod.ext rfl (by simp [h])
 |stack c b,i=>by
  have ih:=ztf u c (i+1);have hl:=yey u c;have e:i+(stack c b).pos=i+1+c.pos:=by simp only [pos];omega
  show zaq ((T.n2 (nd 13) (c.fill u).t b.t).path i _)=_;rw [e,T.zgm,if_neg (by omega),if_pos (by unfold Tm.size at hl;omega),zaq,ih];show (if c.bsd.2=true then (c.bsd.1,true) else (c.bsd.1,false))=c.bsd;split<;>rename_i h<;>exact Prod.ext rfl (by simp [h])
 |block c,i=>by
  have ih:=ztf u c (i+1);have e:i+(block c).pos=i+1+c.pos:=by simp only [pos];omega
  show zaq ((T.n1 (nd 9) (c.fill u).t).path i _)=_;rw [e,T.zpb,if_neg (by omega),zaq,ih];show (if c.bsd.2=true then (c.bsd.1,true) else (c.bsd.1,true))=_;rw [ite_self];rfl
 |parL c b,i=>by
  have ih:=ztf u c (i+1);have hl:=yey u c;have e:i+(parL c b).pos=i+1+c.pos:=by simp only [pos];omega
  show zaq ((T.n2 (nd 7) (c.fill u).t b.t).path i _)=_;rw [e,T.zgm,if_neg (by omega),if_pos (by unfold Tm.size at hl;omega),zaq,ih];rfl
 |parR a c,i=>by
  have ih:=ztf u c (i+1+a.t.size);have e:i+(parR a c).pos=i+1+a.t.size+c.pos:=by simp only [pos,Tm.size];omega
  show zaq ((T.n2 (nd 7) a.t (c.fill u).t).path i _)=_;rw [e,T.zgm,if_neg (by omega),if_neg (by omega),zaq,ih];rfl
end Cx
namespace Tm
def mdT:Tm→Int→Tm
 |act _,_=>over 1
 |alt a b,how=>if how=2 then a else b
 |pair a b,how=>if how=5 then fin 3 skip else going a b
 |_,how=>if how=5 then over 3 else over 1
end Tm
end Go.Rd
namespace Go.Proofs.YtjolkdjkhekbnaaGreatDoor.Sv
open Go Go.Sv Go.Rd
theorem ygi [Dfr] (c:Cx) (u:Tm):∃B,(c.fill u).row.drop c.pos=u.row++B:=by obtain ⟨A,B,h1,h2⟩:=Cx.zkt c;exact ⟨B,by rw [h2,←h1,List.drop_left]⟩
theorem xan [Dfr] (c:Cx) (u x:Tm):putR (c.fill u).row (c.pos:Int) x.row=(c.fill x).row:=by
 obtain ⟨A,B,h1,h2⟩:=Cx.zkt c;have hd:(c.fill u).row.drop c.pos=u.row++B:=by rw [h2,←h1,List.drop_left]
 have hsz:sz ((c.fill u).row.drop c.pos)=u.size:=by unfold sz;rw [hd,show u.row=u.t.row from rfl,qfr (Tm.t_ok u)];rfl
 have hpos:0<u.size:=T.zux u.t;have hlen:(c.fill u).row.length=A.length+(u.size+B.length):=by rw [h2,List.length_append,List.length_append,Tm.zac]
 unfold putR;rw [if_pos ⟨by omega,by omega,by rw [Int.toNat_natCast,hsz];exact hpos⟩,Int.toNat_natCast,hsz,←List.drop_drop,hd,←Tm.zac u,List.drop_left];rw [h2 u,h2 x,←h1,List.take_left,List.append_assoc]
theorem yve [Dfr] (c:Cx) (u:Tm):(c.fill u).row.getD c.pos default=u.t.hd:=by
 obtain ⟨B,hd⟩:=ygi c u;have h3:(c.fill u).row[c.pos]? =some u.t.hd:=by rw [←List.head?_drop,hd];show (u.t.row++B).head? =_;cases u.t<;>rfl
 rw [List.getD_eq_getElem?_getD,h3];rfl
theorem xjx [Dfr] {n:Tm} {m:Mv} (h:m∈enL n.row):∃(c:Cx) (u:Tm),n=c.fill u∧u.Wt∧m.1=(c.pos:Int)∧m∈zic u.t.hd.1 (c.pos:Int) (qfg n.t c.pos):=by
 obtain ⟨hs,t,k,ht,hm1,hk,hkw,hw,hin⟩:=xby h;have e:t=n.t:=by have:=zpn (Tm.t_ok n);rw [show n.t.row=n.row from rfl,ht] at this;exact Option.some.inj this
 subst e;obtain ⟨c,u,h1,h2,h3⟩:=Cx.qlz n 0 k hkw;rw [Nat.zero_add] at h3;subst h3;refine ⟨c,u,h1,h2,hm1,?_⟩;have:=yve c u;rw [←h1] at this;rw [←this];exact hin
theorem xjy [Dfr] {c:Cx} {u:Tm} (hs:setL (c.fill u).row) (hu:u.Wt) {m:Mv} (h:m∈zic u.t.hd.1 (c.pos:Int) (qfg (c.fill u).t c.pos)):m∈enL (c.fill u).row:=by rw [qmi (show tree (c.fill u).row=some (c.fill u).t from zpn (Tm.t_ok _)) hs];unfold mvsT;have hw:=Cx.qks hu c 0;rw [Nat.zero_add] at hw;refine List.mem_flatMap.2 ⟨c.pos,hw,?_⟩;rw [yve];exact h
theorem xha [Dfr] {u:Tm} (hu:u.Wt) {how:Int} {r:List Nd} {k:Int} {f:Bool} (hin:(k,how)∈zic u.t.hd.1 k f):zkz (u.row++r) how=(u.mdT how).row∧(u.po=true→(u.mdT how).po=true)∧(u.qo=true→(u.mdT how).qo=true)∧(u.fine→(u.mdT how).fine)∧(u.mdT how).size≤u.size:=by
 have hk:zea (u.row++r)=u.t.kids.map T.row:=by unfold zea;rw [show u.row=u.t.row from rfl,qfr (Tm.t_ok u)]
 rcases hu with ⟨s,rfl⟩|⟨a,b,rfl⟩|rfl|⟨a,b,rfl⟩
 ·have h1:how=1:=by simpa [zic,Tm.t,T.hd] using hin
  subst h1;exact ⟨rfl,fun _=>rfl,fun h=>by simp [Tm.qo] at h,fun _=>by show zkw 1=true;decide,Nat.le_refl _⟩
 ·have h1:how=2∨how=3:=by simpa [zic,Tm.t,T.hd] using hin
  rcases h1 with rfl|rfl
  ·refine ⟨?_,fun h=> ?_,fun h=> ?_,fun h=>h.1,by show a.size≤_;rw [Tm.zsf];omega⟩
   ·unfold zkz;rw [if_pos rfl,hk];rfl
   ·simp only [Tm.po,Bool.and_eq_true] at h;exact Tm.zbv h.1
   ·simp only [Tm.qo,Bool.and_eq_true] at h;exact Tm.zhe h.1
  ·refine ⟨?_,fun h=> ?_,fun h=> ?_,fun h=>h.2,by show b.size≤_;rw [Tm.zsf];omega⟩
   ·unfold zkz;rw [if_neg (by decide),if_pos rfl,hk];rfl
   ·simp only [Tm.po,Bool.and_eq_true] at h;exact Tm.zbv h.2
   ·simp only [Tm.qo,Bool.and_eq_true] at h;exact Tm.zhe h.2
 ·have h1:how=4∨how=5:=by cases f<;>simp [zic,Tm.t,T.hd] at hin<;>omega
  rcases h1 with rfl|rfl
  ·exact ⟨rfl,fun _=>rfl,fun h=>by simp [Tm.qo] at h,fun _=>by show zkw 1=true;decide,Nat.le_refl _⟩
  ·exact ⟨rfl,fun _=>rfl,fun h=>by simp [Tm.qo] at h,fun _=>by show zkw 3=true;decide,Nat.le_refl _⟩
 ·have h1:how=4∨how=5:=by cases f<;>simp [zic,Tm.t,T.hd] at hin<;>omega
  rcases h1 with rfl|rfl
  ·refine ⟨?_,fun h=>by simp [Tm.po] at h,fun h=> ?_,fun h=>h,Nat.le_refl _⟩
   ·unfold zkz;rw [if_neg (by decide),if_neg (by decide),if_neg (by decide),if_pos (show (ix ((Tm.pair a b).row++r) 0).1=10 from rfl),hk];show _::(a.t.row++(b.t.row++[]))=_;rw [List.append_nil];rfl
   ·show (Tm.going a b).qo=true;simp only [Tm.qo,Bool.and_eq_true] at h ⊢;exact ⟨Tm.zbv h.1,h.2⟩
  ·refine ⟨rfl,fun h=>by simp [Tm.po] at h,fun _=>rfl,fun _=>⟨by show zkw 3=true;decide,trivial⟩,?_⟩;have h1:0<a.size:=by rw [←Tm.zac];exact List.length_pos_iff.2 (Tm.qvx a)
   have h2:(Tm.fin 3 .skip).size=2:=rfl;have h3:(Tm.pair a b).size=a.size+b.size+1:=rfl;show (Tm.fin 3 .skip).size≤_;omega
theorem qyw [Dfr] {n:Tm} (h:setL n.row):n.fine∧n.size≤200∧(n.po=true∨n.qo=true)∧n.st=n:=by obtain ⟨m,hm,hf,hz,ho,hst,_⟩:=qyv h;have:=Tm.qjm hm;subst this;exact ⟨hf,hz,ho,hst⟩
theorem yjd [Dfr] {c:Cx} {u:Tm} {how:Int} (hs:setL (c.fill u).row) (hu:u.Wt) (hin:((c.pos:Int),how)∈zic u.t.hd.1 (c.pos:Int) (qfg (c.fill u).t c.pos)):
 zdc (c.fill u).row ((c.pos:Int),how)=((c.fill (u.mdT how)).st.row,u.t.hd.2.1,0)∧(c.fill (u.mdT how)).fine∧(c.fill (u.mdT how)).size≤(c.fill u).size∧(((c.fill u).po=true→(c.fill (u.mdT how)).po=true)∧((c.fill u).qo=true→(c.fill (u.mdT how)).qo=true)):=by
 obtain ⟨hf,hz,ho,hst⟩:=qyw hs;obtain ⟨B,hd⟩:=ygi c u;obtain ⟨x1,x2,x3,x4,x5⟩:=xha (r:=B) hu hin;have hk:=Cx.zou x2 x3 c;have hf2:=(Cx.zdm c (x:=u.mdT how) hf).1 (x4 (Cx.zdm c (x:=u) hf).2);have hsz:=Cx.yvl c (u.mdT how) u;have hset:=zqz hf2 (by omega) (ho.imp hk.1 hk.2);refine ⟨?_,hf2,by omega,hk⟩;unfold zdc;rw [if_pos (xjy hs hu hin)];show (zbl (putR _ (c.pos:Int) (zkz ((c.fill u).row.drop (c.pos:Int).toNat) how)),(ix ((c.fill u).row.drop (c.pos:Int).toNat) 0).2.1,(0:Int))=_;rw [Int.toNat_natCast,hd,x1,xan,hset];have:ix (u.row++B) 0=u.t.hd:=by show ix (u.t.row++B) 0=_;cases u.t<;>rfl
 rw [this]
end Go.Proofs.YtjolkdjkhekbnaaGreatDoor.Sv
namespace Go.Rd
open Go Go.Sv
namespace Cx
def fr:Cx→Bool→Bool
 |hole,F=>F
 |seq c _,F=>c.fr F
 |hand c _,F=>c.fr F
 |going c _,F=>c.fr F
 |stack c _,F=>c.fr F
 |parL c b,F=>c.fr (F||b.bang)
 |parR a c,F=>c.fr (F||a.bang)
 |block c,F=>c.fr false
end Cx
namespace Tm
def nmL:Tm→List ByteArray
 |act s=>[s]
 |_=>[]
def pf (u:Tm) (x:Tc):Tc:=(u.nmL++x.1,x.2)
def pfQ (u:Tm) (z:Qc):Qc:=(u.pf z.1,z.2)
def wayT:Tm→Int→Bool→Prop
 |act _,h,_=>h=1
 |alt _ _,h,_=>h=2∨h=3
 |yield,h,f=>h=4∨(h=5∧f=true)
 |pair _ _,h,f=>h=4∨(h=5∧f=true)
 |_,_,_=>False
theorem yiz (u:Tm) (p q:Tc):zek (u.pf p) q=u.pf (zek p q):=by
 unfold zek pf;split
 ·rw [List.append_assoc]
 ·rfl
theorem ytk (u:Tm) (p q:Tc):behT (u.pf p) q=u.pf (behT p q):=by unfold behT pf;rw [List.append_assoc]
theorem ytj (u:Tm) (p q:Tc):qcn (u.pf p) q=u.pf (qcn p q):=by unfold qcn;rw [ytk];show (if p.2=2 then _ else _)=_;split<;>rfl
theorem ytl (u:Tm) (p q:Qc):seqF (u.pfQ p) q=u.pfQ (seqF p q):=by
 unfold seqF pfQ;show (if p.1.2=1 then _ else _)=_;split
 ·rw [yiz]
 ·rfl
theorem yfk {α:Type}:∀(l:List α) {p q r:List α},Mx p q r→Mx (l++p) q (l++r)
 |[],_,_,_,h=>h
 |a::l,_,_,_,h=>.l (yfk l h)
theorem xio {u:Tm} {how:Int} {f:Bool} (h:u.wayT how f):(∀x∈(u.mdT how).tr,u.pf x∈u.tr)∧(∀z∈(u.mdT how).pq,u.pfQ z∈u.pq):=by
 cases u with
 |act s=>exact ⟨fun x hx=>by rw [zak.1 hx];exact qca.2 rfl,fun z hz=>by (cases hz)⟩
 |alt a b=>
  rcases h with rfl|rfl
  ·exact ⟨fun x hx=>zvs.2 (.inl hx),fun z hz=>zvt.2 (.inl hz)⟩
  ·exact ⟨fun x hx=>zvs.2 (.inr hx),fun z hz=>zvt.2 (.inr hz)⟩
 |yield=>
  rcases h with rfl|⟨rfl,_⟩
  ·exact ⟨fun x hx=>by rw [zak.1 hx];exact zop.2 (.inl rfl),fun z hz=>by (cases hz)⟩
  ·exact ⟨fun x hx=>by rw [zak.1 hx];exact zop.2 (.inr rfl),fun z hz=>by (cases hz)⟩
 |pair a b=>
  rcases h with rfl|⟨rfl,_⟩
  ·exact ⟨fun x hx=>by (cases hx),fun z hz=>zrm.2 (.inl (zdz.1 hz))⟩
  ·refine ⟨fun x hx=>by (cases hx),fun z hz=>zrm.2 (.inr ?_)⟩;obtain ⟨q,hq,rfl⟩:=zbc.1 (show z∈(fin 3 skip).pq from hz);rw [zni.1 hq];rfl
 |_=>exact absurd h id
theorem sound {u:Tm} {how:Int} {f:Bool} (h:u.wayT how f):∀c:Cx,(∀x∈(c.fill (u.mdT how)).tr,u.pf x∈(c.fill u).tr)∧(∀z∈(c.fill (u.mdT how)).pq,u.pfQ z∈(c.fill u).pq)
 | .hole=>xio h
 | .seq c b=>⟨fun x hx=>by
  obtain ⟨p,hp,q,hq,rfl⟩:=zfg.1 hx;exact zfg.2 ⟨_,(sound h c).1 p hp,q,hq,(yiz u p q).symm⟩,fun z hz=>by
  obtain ⟨p,hp,q,hq,rfl⟩:=zht.1 hz;exact zht.2 ⟨_,(sound h c).2 p hp,q,hq,(ytl u p q).symm⟩⟩
 | .hand c b=>⟨fun x hx=>by obtain ⟨p,hp,q,hq,rfl⟩:=zfw.1 hx;exact zfw.2 ⟨_,(sound h c).1 p hp,q,hq,(ytj u p q).symm⟩,fun z hz=>by (cases hz)⟩
 | .going c b=>⟨fun x hx=>by (cases hx),fun z hz=>by obtain ⟨p,hp,q,hq,rfl⟩:=zdz.1 hz;exact zdz.2 ⟨_,(sound h c).1 p hp,q,hq,rfl⟩⟩
 | .stack c b=>⟨fun x hx=>by (cases hx),fun z hz=>by obtain ⟨p,hp,q,hq,rfl⟩:=zfm.1 hz;exact zfm.2 ⟨_,(sound h c).2 p hp,q,hq,rfl⟩⟩
 | .parL c b=>⟨fun x hx=>by
  obtain ⟨p,hp,q,hq,h1,h2⟩:=zeh.1 hx;exact zeh.2 ⟨_,(sound h c).1 p hp,q,hq,yfk _ h1,h2⟩,fun z hz=>by
  obtain ⟨p,hp,q,hq,⟨h1,h2⟩,h3⟩:=zfh.1 hz;exact zfh.2 ⟨_,(sound h c).2 p hp,q,hq,⟨yfk _ h1,h2⟩,h3⟩⟩
 | .parR a c=>⟨fun x hx=>by
  obtain ⟨p,hp,q,hq,h1,h2⟩:=zeh.1 hx;exact zeh.2 ⟨p,hp,_,(sound h c).1 q hq,(yfk _ h1.symm).symm,h2⟩,fun z hz=>by
  obtain ⟨p,hp,q,hq,⟨h1,h2⟩,h3⟩:=zfh.1 hz;exact zfh.2 ⟨p,hp,_,(sound h c).2 q hq,⟨(yfk _ h1.symm).symm,h2⟩,h3⟩⟩
 | .block c=>⟨fun x hx=>by
  obtain ⟨z,hz,h1⟩:=zde.1 hx;refine zde.2 ⟨_,(sound h c).2 z hz,?_⟩;rcases h1 with ⟨h1,rfl⟩|⟨h1,rfl⟩
  ·exact .inl ⟨h1,rfl⟩
  ·exact .inr ⟨h1,(ytk u z.1 z.2).symm⟩,fun z hz=>by (cases hz)⟩
def Stp (m:Tm) (F:Bool) (x:Tc):Prop:=∃(c:Cx) (u:Tm) (how:Int) (y:Tc),m=c.fill u∧u.Wt∧u.wayT how (c.fr F)∧y∈(c.fill (u.mdT how)).tr∧x=u.pf y
def StpQ (m:Tm) (F:Bool) (x:Qc):Prop:=∃(c:Cx) (u:Tm) (how:Int) (y:Qc),m=c.fill u∧u.Wt∧u.wayT how (c.fr F)∧y∈(c.fill (u.mdT how)).pq∧x=u.pfQ y
theorem qhw (u:Tm):u.nmL=[]∨∃s,u.nmL=[s]:=by cases u<;>first|exact .inl rfl|exact .inr ⟨_,rfl⟩
theorem ymc {α:Type} {la pa lb qb r:List α} (hla:la=[]∨∃s,la=[s]) (hlb:lb=[]∨∃s,lb=[s]) (h:Mx (la++pa) (lb++qb) r):(∃r',Mx pa (lb++qb) r'∧r=la++r')∨(∃r',Mx (la++pa) qb r'∧r=lb++r'):=by
 rcases hla with rfl|⟨s,rfl⟩
 ·exact .inl ⟨r,h,rfl⟩
 ·rcases hlb with rfl|⟨s',rfl⟩
  ·exact .inr ⟨r,h,rfl⟩
  ·cases h with
   |l h=>exact .inl ⟨_,h,rfl⟩
   |r h=>exact .inr ⟨_,h,rfl⟩
theorem ylm {a b:Tm} {F:Bool} {p q x:Tc} (hq:q∈b.tr) (h:∃(c:Cx) (u:Tm) (how:Int) (y:Tc),a=c.fill u∧u.Wt∧u.wayT how (c.fr (F||b.bang))∧y∈(c.fill (u.mdT how)).tr∧p=u.pf y∧∃r',Mx y.1 q.1 r'∧x.1=u.nmL++r') (hx:x.2=bs p.2 q.2):Stp (par a b) F x:=by obtain ⟨c,u,how,y,rfl,h2,h3,h4,rfl,r',h5,h6⟩:=h;exact ⟨.parL c b,u,how,(r',bs y.2 q.2),rfl,h2,h3,zeh.2 ⟨y,h4,q,hq,h5,rfl⟩,Prod.ext h6 hx⟩
theorem yll {a b:Tm} {F:Bool} {p q x:Tc} (hp:p∈a.tr) (h:∃(c:Cx) (u:Tm) (how:Int) (y:Tc),b=c.fill u∧u.Wt∧u.wayT how (c.fr (F||a.bang))∧y∈(c.fill (u.mdT how)).tr∧q=u.pf y∧∃r',Mx p.1 y.1 r'∧x.1=u.nmL++r') (hx:x.2=bs p.2 q.2):Stp (par a b) F x:=by obtain ⟨c,u,how,y,rfl,h2,h3,h4,rfl,r',h5,h6⟩:=h;exact ⟨.parR a c,u,how,(r',bs p.2 y.2),rfl,h2,h3,zeh.2 ⟨p,hp,y,h4,h5,rfl⟩,Prod.ext h6 hx⟩
theorem yyo {a b:Tm} {F:Bool} {p q x:Tc} (hq:q∈b.tr) (h:Stp a (F||b.bang) p) (hn:q.1=[]) (hm:Mx p.1 q.1 x.1) (hx:x.2=bs p.2 q.2):Stp (par a b) F x:=by obtain ⟨c,u,how,y,h1,h2,h3,h4,h5⟩:=h;rw [hn] at hm;have e:=hm.yot;refine ylm (p:=p) hq ⟨c,u,how,y,h1,h2,h3,h4,h5,y.1,by rw [hn];exact Mx.left _,by rw [e,h5];rfl⟩ hx
theorem xfj {a b:Tm} {F:Bool} {p q x:Tc} (hp:p∈a.tr) (h:Stp b (F||a.bang) q) (hn:p.1=[]) (hm:Mx p.1 q.1 x.1) (hx:x.2=bs p.2 q.2):Stp (par a b) F x:=by obtain ⟨c,u,how,y,h1,h2,h3,h4,h5⟩:=h;rw [hn] at hm;have e:=hm.qrh;refine yll (q:=q) hp ⟨c,u,how,y,h1,h2,h3,h4,h5,y.1,by rw [hn];exact Mx.right _,by rw [e,h5];rfl⟩ hx
theorem xim {a b:Tm} {F:Bool} {p q x:Tc} (hp:p∈a.tr) (hq:q∈b.tr) (h:Stp a (F||b.bang) p) (k:Stp b (F||a.bang) q) (hm:Mx p.1 q.1 x.1) (hx:x.2=bs p.2 q.2):Stp (par a b) F x:=by
 obtain ⟨c,u,how,y,h1,h2,h3,h4,h5⟩:=h;obtain ⟨c',u',how',y',k1,k2,k3,k4,k5⟩:=k;have hm':Mx (u.nmL++y.1) (u'.nmL++y'.1) x.1:=by rw [h5,k5] at hm;exact hm
 rcases ymc (qhw u) (qhw u') hm' with ⟨r',e1,e2⟩|⟨r',e1,e2⟩
 ·exact ylm (p:=p) hq ⟨c,u,how,y,h1,h2,h3,h4,h5,r',by rw [k5];exact e1,e2⟩ hx
 ·exact yll (q:=q) hp ⟨c',u',how',y',k1,k2,k3,k4,k5,r',by rw [h5];exact e1,e2⟩ hx
theorem ycs {a b:Tm} {F:Bool} {p q x:Qc} (hq:q∈b.pq) (h:∃(c:Cx) (u:Tm) (how:Int) (y:Qc),a=c.fill u∧u.Wt∧u.wayT how (c.fr (F||b.bang))∧y∈(c.fill (u.mdT how)).pq∧p=u.pfQ y∧∃r',Mx y.1.1 q.1.1 r'∧x.1.1=u.nmL++r') (hx:x.1.2=bs p.1.2 q.1.2) (h2m:Mx p.2.1 q.2.1 x.2.1) (h2:x.2.2=bs p.2.2 q.2.2):StpQ (par a b) F x:=by obtain ⟨c,u,how,y,rfl,k2,k3,k4,rfl,r',k5,k6⟩:=h;exact ⟨.parL c b,u,how,((r',bs y.1.2 q.1.2),x.2),rfl,k2,k3,zfh.2 ⟨y,k4,q,hq,⟨k5,rfl⟩,h2m,h2⟩,Prod.ext (Prod.ext k6 hx) rfl⟩
theorem ycr {a b:Tm} {F:Bool} {p q x:Qc} (hp:p∈a.pq) (h:∃(c:Cx) (u:Tm) (how:Int) (y:Qc),b=c.fill u∧u.Wt∧u.wayT how (c.fr (F||a.bang))∧y∈(c.fill (u.mdT how)).pq∧q=u.pfQ y∧∃r',Mx p.1.1 y.1.1 r'∧x.1.1=u.nmL++r') (hx:x.1.2=bs p.1.2 q.1.2) (h2m:Mx p.2.1 q.2.1 x.2.1) (h2:x.2.2=bs p.2.2 q.2.2):StpQ (par a b) F x:=by obtain ⟨c,u,how,y,rfl,k2,k3,k4,rfl,r',k5,k6⟩:=h;exact ⟨.parR a c,u,how,((r',bs p.1.2 y.1.2),x.2),rfl,k2,k3,zfh.2 ⟨p,hp,y,k4,⟨k5,rfl⟩,h2m,h2⟩,Prod.ext (Prod.ext k6 hx) rfl⟩
theorem yln {a b:Tm} {F:Bool} {p q x:Qc} (hq:q∈b.pq) (h:StpQ a (F||b.bang) p) (hn:q.1.1=[]) (hm:Mx p.1.1 q.1.1 x.1.1) (hx:x.1.2=bs p.1.2 q.1.2) (h2m:Mx p.2.1 q.2.1 x.2.1) (h2:x.2.2=bs p.2.2 q.2.2):StpQ (par a b) F x:=by obtain ⟨c,u,how,y,h1,k2,h3,h4,h5⟩:=h;rw [hn] at hm;have e:=hm.yot;exact ycs (p:=p) hq ⟨c,u,how,y,h1,k2,h3,h4,h5,y.1.1,by rw [hn];exact Mx.left _,by rw [e,h5];rfl⟩ hx h2m h2
theorem yri {a b:Tm} {F:Bool} {p q x:Qc} (hp:p∈a.pq) (h:StpQ b (F||a.bang) q) (hn:p.1.1=[]) (hm:Mx p.1.1 q.1.1 x.1.1) (hx:x.1.2=bs p.1.2 q.1.2) (h2m:Mx p.2.1 q.2.1 x.2.1) (h2:x.2.2=bs p.2.2 q.2.2):StpQ (par a b) F x:=by obtain ⟨c,u,how,y,h1,k2,h3,h4,h5⟩:=h;rw [hn] at hm;have e:=hm.qrh;exact ycr (q:=q) hp ⟨c,u,how,y,h1,k2,h3,h4,h5,y.1.1,by rw [hn];exact Mx.right _,by rw [e,h5];rfl⟩ hx h2m h2
theorem xfk {a b:Tm} {F:Bool} {p q x:Qc} (hp:p∈a.pq) (hq:q∈b.pq) (h:StpQ a (F||b.bang) p) (k:StpQ b (F||a.bang) q) (hm:Mx p.1.1 q.1.1 x.1.1) (hx:x.1.2=bs p.1.2 q.1.2) (h2m:Mx p.2.1 q.2.1 x.2.1) (h2:x.2.2=bs p.2.2 q.2.2):StpQ (par a b) F x:=by
 obtain ⟨c,u,how,y,h1,h2',h3,h4,h5⟩:=h;obtain ⟨c',u',how',y',k1,k2,k3,k4,k5⟩:=k;have hm':Mx (u.nmL++y.1.1) (u'.nmL++y'.1.1) x.1.1:=by rw [h5,k5] at hm;exact hm
 rcases ymc (qhw u) (qhw u') hm' with ⟨r',e1,e2⟩|⟨r',e1,e2⟩
 ·exact ycs (p:=p) hq ⟨c,u,how,y,h1,h2',h3,h4,h5,r',by rw [k5];exact e1,e2⟩ hx h2m h2
 ·exact ycr (q:=q) hp ⟨c',u',how',y',k1,k2,k3,k4,k5,r',by rw [h5];exact e1,e2⟩ hx h2m h2
def Cnd (F:Bool) (x:Tc):Prop:=F=true∨x.2≠3∨x.1≠[]
theorem xkk {p q:Tc} (h:p.2=3):zek p q=p:=by unfold zek;rw [if_neg (by omega)]
theorem xcc {F:Bool} {p q:Tc} (h:Cnd F (zek p q)):Cnd F p:=by
 by_cases h3:p.2=3
 ·rw [xkk h3] at h;exact h
 ·exact .inr (.inl h3)
theorem xcd {F:Bool} {p q:Tc} (h:Cnd F (qcn p q)):Cnd F p:=by
 by_cases h3:p.2=3
 ·unfold qcn at h;rw [if_neg (by omega)] at h;exact h
 ·exact .inr (.inl h3)
theorem xhl {F:Bool} {p q:Qc} (h:Cnd F (seqF p q).1):Cnd F p.1:=by
 by_cases h3:p.1.2=3
 ·unfold seqF at h;rw [if_neg (by omega)] at h;exact h
 ·exact .inr (.inl h3)
theorem ybw {F:Bool} {s:Int} {x q:Tc} (hs:zkw s=true) (h:Cnd F x) (hx:x.2=bs s q.2) (h1:x.1=q.1):Cnd (F||decide (s=2)) q:=by
 rcases h with h|h|h
 ·exact .inl (by rw [h];rfl)
 ·by_cases h2:s=2
  ·exact .inl (by rw [decide_eq_true h2,Bool.or_true])
  ·by_cases h3:q.2=3
   ·exfalso;apply h;rw [hx,h3];rcases zqy.1 hs with rfl|rfl|rfl
    ·decide
    ·exact absurd rfl h2
    ·decide
   ·exact .inr (.inl h3)
 ·exact .inr (.inr (by rw [←h1];exact h))
theorem ywa {F:Bool} {p q x:Tc} (h:Cnd F x) (hx:x.2=bs p.2 q.2) (h1:x.1=[]):F=true∨p.2≠3∨q.2≠3:=by
 rcases h with h|h|h
 ·exact .inl h
 ·by_cases h3:p.2=3
  ·by_cases h4:q.2=3
   ·exfalso;apply h;rw [hx,h3,h4];decide
   ·exact .inr (.inr h4)
  ·exact .inr (.inl h3)
 ·exact absurd h1 h
theorem ztc:∀m:Tm,m.settled→m.fine→(m.po=true→m.zjb=false→∀(F:Bool) (x:Tc),x∈m.tr→Cnd F x→Stp m F x)∧(m.qo=true→m.isFin=false→∀(F:Bool) (x:Qc),x∈m.pq→Cnd F x.1→StpQ m F x)
 |act s,hs,hf=>⟨fun _ _ F x hx _=>⟨.hole,act s,1,([],1),rfl,.inl ⟨s,rfl⟩,rfl,zak.2 rfl,qca.1 hx⟩,fun h=>by simp [qo] at h⟩
 |skip,hs,hf=>by unfold settled at hs;rw [zti] at hs;cases hs
 |throw,hs,hf=>by unfold settled at hs;rw [zpp] at hs;cases hs
 |yield,hs,hf=>⟨fun _ _ F x hx hc=>by
  rcases zop.1 hx with rfl|rfl
  ·exact ⟨.hole,yield,4,([],1),rfl,.inr (.inr (.inl rfl)),.inl rfl,zak.2 rfl,rfl⟩
  ·have hF:F=true:=by
    rcases hc with h|h|h
    ·exact h
    ·exact absurd rfl h
    ·exact absurd rfl h
   exact ⟨.hole,yield,5,([],3),rfl,.inr (.inr (.inl rfl)),.inr ⟨rfl,hF⟩,zak.2 rfl,rfl⟩,fun h=>by simp [qo] at h⟩
 |over s,hs,hf=>⟨fun _ h=>by simp [zjb] at h,fun h=>by simp [qo] at h⟩
 |fin s a,hs,hf=>⟨fun h=>by simp [po] at h,fun _ h=>by simp [isFin] at h⟩
 |alt a b,hs,hf=>⟨fun _ _ F x hx hc=>by
  rcases zvs.1 hx with h|h
  ·exact ⟨.hole,alt a b,2,x,rfl,.inr (.inl ⟨a,b,rfl⟩),.inl rfl,h,rfl⟩
  ·exact ⟨.hole,alt a b,3,x,rfl,.inr (.inl ⟨a,b,rfl⟩),.inr rfl,h,rfl⟩,fun _ _ F x hx hc=>by
  rcases zvt.1 hx with h|h
  ·exact ⟨.hole,alt a b,2,x,rfl,.inr (.inl ⟨a,b,rfl⟩),.inl rfl,h,rfl⟩
  ·exact ⟨.hole,alt a b,3,x,rfl,.inr (.inl ⟨a,b,rfl⟩),.inr rfl,h,rfl⟩⟩
 |pair a b,hs,hf=>⟨fun h=>by simp [po] at h,fun _ _ F x hx hc=>by
  rcases zrm.1 hx with h|rfl
  ·exact ⟨.hole,pair a b,4,x,rfl,.inr (.inr (.inr ⟨a,b,rfl⟩)),.inl rfl,zdz.2 h,rfl⟩
  ·have hF:F=true:=by
    rcases hc with h|h|h
    ·exact h
    ·exact absurd rfl h
    ·exact absurd rfl h
   exact ⟨.hole,pair a b,5,(([],3),([],1)),rfl,.inr (.inr (.inr ⟨a,b,rfl⟩)),.inr ⟨rfl,hF⟩,zbc.2 ⟨_,zni.2 rfl,rfl⟩,rfl⟩⟩
 |seq a b,hs,hf=>by
  obtain ⟨h1,h2,h3⟩:=qpq hs;obtain ⟨iha,ihb⟩:=ztc a h1 hf.1;refine ⟨fun h _ F x hx hc=> ?_,fun h _ F x hx hc=> ?_⟩
  ·simp only [po,Bool.and_eq_true] at h;obtain ⟨p,hp,q,hq,rfl⟩:=zfg.1 hx;obtain ⟨c,u,how,y,rfl,e2,e3,e4,rfl⟩:=iha h.1 h2 F p hp (xcc hc);exact ⟨.seq c b,u,how,_,rfl,e2,e3,zfg.2 ⟨y,e4,q,hq,rfl⟩,yiz u y q⟩
  ·simp only [qo,Bool.and_eq_true] at h;obtain ⟨p,hp,q,hq,rfl⟩:=zht.1 hx;obtain ⟨c,u,how,y,rfl,e2,e3,e4,rfl⟩:=ihb h.1 h3 F p hp (xhl hc);exact ⟨.seq c b,u,how,_,rfl,e2,e3,zht.2 ⟨y,e4,q,hq,rfl⟩,ytl u y q⟩
 |hand a b,hs,hf=>by obtain ⟨h1,h2⟩:=qlc hs;refine ⟨fun h _ F x hx hc=> ?_,fun h=>by simp [qo] at h⟩;simp only [po,Bool.and_eq_true] at h;obtain ⟨p,hp,q,hq,rfl⟩:=zfw.1 hx;obtain ⟨c,u,how,y,rfl,e2,e3,e4,rfl⟩:=(ztc a h1 hf.1).1 h.1 h2 F p hp (xcd hc);exact ⟨.hand c b,u,how,_,rfl,e2,e3,zfw.2 ⟨y,e4,q,hq,rfl⟩,ytj u y q⟩
 |going a b,hs,hf=>by obtain ⟨h1,h2⟩:=qgq hs;refine ⟨fun h=>by simp [po] at h,fun h _ F x hx hc=> ?_⟩;simp only [qo,Bool.and_eq_true] at h;obtain ⟨p,hp,q,hq,rfl⟩:=zdz.1 hx;obtain ⟨c,u,how,y,rfl,e2,e3,e4,rfl⟩:=(ztc a h1 hf.1).1 h.1 h2 F p hp hc;exact ⟨.going c b,u,how,_,rfl,e2,e3,zdz.2 ⟨y,e4,q,hq,rfl⟩,rfl⟩
 |stack a b,hs,hf=>by obtain ⟨h1,h2⟩:=qgp hs;refine ⟨fun h=>by simp [po] at h,fun h _ F x hx hc=> ?_⟩;simp only [qo,Bool.and_eq_true] at h;obtain ⟨p,hp,q,hq,rfl⟩:=zfm.1 hx;obtain ⟨c,u,how,y,rfl,e2,e3,e4,rfl⟩:=(ztc a h1 hf.1).2 h.1 h2 F p hp hc;exact ⟨.stack c b,u,how,_,rfl,e2,e3,zfm.2 ⟨y,e4,q,hq,rfl⟩,rfl⟩
 |block a,hs,hf=>by
  obtain ⟨h1,h2⟩:=qgr hs;refine ⟨fun h _ F x hx hc=> ?_,fun h=>by simp [qo] at h⟩;simp only [po] at h;obtain ⟨z,hz,hzx⟩:=zde.1 hx;have hc2:Cnd false z.1:=.inr (.inl (by rcases hzx with ⟨h,_⟩|⟨h,_⟩<;>omega));have hfin:a.isFin=false:=by
   cases a<;>first|rfl|skip
   rename_i s c _;exfalso;obtain ⟨q,hq,rfl⟩:=zbc.1 hz;have:=h2 s c rfl;rcases hzx with ⟨h,_⟩|⟨h,_⟩
   ·exact this.1 h
   ·exact this.2 h
  obtain ⟨c,u,how,y,rfl,e2,e3,e4,rfl⟩:=(ztc a h1 hf).2 h hfin false z hz hc2;rcases hzx with ⟨k,rfl⟩|⟨k,rfl⟩
  ·exact ⟨.block c,u,how,y.1,rfl,e2,e3,zde.2 ⟨y,e4,.inl ⟨k,rfl⟩⟩,rfl⟩
  ·exact ⟨.block c,u,how,behT y.1 y.2,rfl,e2,e3,zde.2 ⟨y,e4,.inr ⟨k,rfl⟩⟩,ytk u y.1 y.2⟩
 |par a b,hs,hf=>by
  obtain ⟨h1,h2,h3,h4⟩:=qec hs;obtain ⟨iha,iha'⟩:=ztc a h1 hf.1;obtain ⟨ihb,ihb'⟩:=ztc b h2 hf.2;refine ⟨fun h _ F x hx hc=> ?_,fun h _ F x hx hc=> ?_⟩
  ·simp only [po,Bool.and_eq_true] at h;obtain ⟨p,hp,q,hq,hm,hx2⟩:=zeh.1 hx;cases hao:a.zjb with
   |true=>
    have hbo:b.zjb=false:=by rcases h3 with h3|h3;rw [hao] at h3;cases h3;exact h3
    cases a<;>first|(cases hao;done)|skip
    rename_i s;have ep:=zak.1 hp;have e1:p.1=[]:=by rw [ep]
    have e2:x.1=q.1:=by rw [e1] at hm;exact hm.qrh
    exact xfj hp (ihb h.2 hbo _ q hq (ybw hf.1 hc (by rw [hx2,ep]) e2)) e1 hm hx2
   |false=>
    cases hbo:b.zjb with
    |true=>
     cases b<;>first|(cases hbo;done)|skip
     rename_i s;have ep:=zak.1 hq;have e1:q.1=[]:=by rw [ep]
     have e2:x.1=p.1:=by rw [e1] at hm;exact hm.yot
     exact yyo hq (iha h.1 hao _ p hp (ybw hf.2 hc (by rw [hx2,ep,ywi]) e2)) e1 hm hx2
    |false=>
     by_cases hp1:p.1=[]
     ·by_cases hq1:q.1=[]
      ·have hx1:x.1=[]:=by rw [hp1,hq1] at hm;exact hm.qrh
       rcases ywa hc hx2 hx1 with k|k|k
       ·exact yyo hq (iha h.1 hao _ p hp (.inl (by rw [k];rfl))) hq1 hm hx2
       ·exact yyo hq (iha h.1 hao _ p hp (.inr (.inl k))) hq1 hm hx2
       ·exact xfj hp (ihb h.2 hbo _ q hq (.inr (.inl k))) hp1 hm hx2
      ·exact xfj hp (ihb h.2 hbo _ q hq (.inr (.inr hq1))) hp1 hm hx2
     ·by_cases hq1:q.1=[]
      ·exact yyo hq (iha h.1 hao _ p hp (.inr (.inr hp1))) hq1 hm hx2
      ·exact xim hp hq (iha h.1 hao _ p hp (.inr (.inr hp1))) (ihb h.2 hbo _ q hq (.inr (.inr hq1))) hm hx2
  ·simp only [qo,Bool.and_eq_true] at h;obtain ⟨p,hp,q,hq,⟨hm,hx2⟩,m2,m3⟩:=zfh.1 hx;cases hao:a.isFin with
   |true=>
    have hbo:b.isFin=false:=by rcases h4 with h3|h3;rw [hao] at h3;cases h3;exact h3
    cases a<;>first|(cases hao;done)|skip
    rename_i s c;obtain ⟨v,_,ep⟩:=zbc.1 hp;have e1:p.1.1=[]:=by rw [ep]
    have e2:x.1.1=q.1.1:=by rw [e1] at hm;exact hm.qrh
    exact yri hp (ihb' h.2 hbo _ q hq (ybw hf.1.1 hc (by rw [hx2,ep]) e2)) e1 hm hx2 m2 m3
   |false=>
    cases hbo:b.isFin with
    |true=>
     cases b<;>first|(cases hbo;done)|skip
     rename_i s c;obtain ⟨v,_,ep⟩:=zbc.1 hq;have e1:q.1.1=[]:=by rw [ep]
     have e2:x.1.1=p.1.1:=by rw [e1] at hm;exact hm.yot
     exact yln hq (iha' h.1 hao _ p hp (ybw hf.2.1 hc (by rw [hx2,ep,ywi]) e2)) e1 hm hx2 m2 m3
    |false=>
     by_cases hp1:p.1.1=[]
     ·by_cases hq1:q.1.1=[]
      ·have hx1:x.1.1=[]:=by rw [hp1,hq1] at hm;exact hm.qrh
       rcases ywa hc hx2 hx1 with k|k|k
       ·exact yln hq (iha' h.1 hao _ p hp (.inl (by rw [k];rfl))) hq1 hm hx2 m2 m3
       ·exact yln hq (iha' h.1 hao _ p hp (.inr (.inl k))) hq1 hm hx2 m2 m3
       ·exact yri hp (ihb' h.2 hbo _ q hq (.inr (.inl k))) hp1 hm hx2 m2 m3
      ·exact yri hp (ihb' h.2 hbo _ q hq (.inr (.inr hq1))) hp1 hm hx2 m2 m3
     ·by_cases hq1:q.1.1=[]
      ·exact yln hq (iha' h.1 hao _ p hp (.inr (.inr hp1))) hq1 hm hx2 m2 m3
      ·exact xfk hp hq (iha' h.1 hao _ p hp (.inr (.inr hp1))) (ihb' h.2 hbo _ q hq (.inr (.inr hq1))) hm hx2 m2 m3
end Tm
end Go.Rd
