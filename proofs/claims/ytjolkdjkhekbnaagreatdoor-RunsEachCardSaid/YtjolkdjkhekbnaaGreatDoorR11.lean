/- What the reference's functions of layer 11 compute: in plain words. -/
import Derived.Test.YtjolkdjkhekbnaaGreatDoorL10
import Derived.Test.YtjolkdjkhekbnaaGreatDoorX19
import Derived.Test.YtjolkdjkhekbnaaGreatDoorM11
import Derived.Test.YtjolkdjkhekbnaaGreatDoorM5
namespace Go.Proofs.YtjolkdjkhekbnaaGreatDoor.Sv
open Go Go.Sv Go.Rd
theorem zvo [Dfr] (xs ys:List Int) (b:Bool) (hx:xs.length≤1000000) (hl:xs.length=ys.length):∀(r:List Int) (i:Nat),xs.drop i=r→zmc xs ys b (i:Int)=some (if r=ys.drop i then (0,b) else (1,false))
 |[],i,h=>by
  obtain ⟨h1,h2⟩:=drop_nil h
  rw [zsa]
  have:ys.drop i=[]:=List.drop_eq_nil_of_le (by omega)
  simp only [h2,cond_false]
  simp [this]
 |x::r,i,h=>by
  obtain ⟨h1,h2,h3,h4,h5,h6⟩:=zan h
  obtain ⟨y,s,hy⟩:∃y s,ys.drop i=y::s:=by
   cases e:ys.drop i with
   |nil=>have:=drop_nil e;omega
   |cons y s=>exact ⟨y,s,rfl⟩
  obtain ⟨k1,k2,k3,k4,k5,k6⟩:=zan hy
  rw [zsa]
  simp only [h2,h3,h4,k3,k4,cond_true,zen (show i<9223372036854775807 by omega),zvo xs ys b hx hl r (i+1) h5,hy,k5]
  by_cases e:x=y
  ·subst e
   by_cases e2:r=s<;>simp [e2]
  ·rw [show (x != y)=true by simpa using e,cond_true,if_neg (fun h=>e (List.cons.inj h).1)]
theorem qrg [Dfr] (xs ys:List Int) (hx:xs.length≤1000000):zuk xs ys=some (decide (xs=ys)):=by
 rw [qnw]
 by_cases hl:xs.length=ys.length
 ·have h1:((xs.length:Int) != (ys.length:Int))=false:=by simp [hl]
  have:=zvo xs ys false hx hl xs 0 rfl
  simp only [Int.natCast_zero,List.drop_zero] at this
  simp only [h1,cond_false,this,Option.bind_some]
  by_cases e:xs=ys<;>simp [e,Nat.beq]
 ·have h1:((xs.length:Int) != (ys.length:Int))=true:=by simp;omega
  have h2:xs≠ys:=fun e=>hl (by rw [e])
  simp [h1,h2]
end Go.Proofs.YtjolkdjkhekbnaaGreatDoor.Sv
namespace Go.Rd
open Go Go.Sv
namespace Tm
def Wt (u:Tm):Prop:=(∃s,u=act s)∨(∃a b,u=alt a b)∨u=yield∨∃a b,u=pair a b
end Tm
end Go.Rd
namespace Go.Proofs.YtjolkdjkhekbnaaGreatDoor.Sv
open Go Go.Sv Go.Rd
def cntW (l:List Nd):Nat:=l.countP fun n=>zcp n.1
def wW (n:Nd):Nat:=if zcp n.1=true then 1 else 0
theorem qec [Dfr] (l:List Nd):cntW l=(l.map wW).sum:=by
 induction l with
 |nil=>rfl
 |cons n r ih =>
  unfold cntW at ih ⊢
  rw [List.countP_cons,List.map_cons,List.sum_cons,←ih]
  exact Nat.add_comm _ _
theorem qed [Dfr] (a b:List Nd):cntW (a++b)=cntW a+cntW b:=List.countP_append
theorem zzv [Dfr] (n:Nd) (l:List Nd):cntW (n::l)=wW n+cntW l:=by
 rw [qec,qec,List.map_cons,List.sum_cons]
theorem ymq [Dfr]:Tm.Light wW:=⟨rfl,fun _=>rfl,fun _=>rfl,rfl,rfl⟩
theorem qwi [Dfr] (x:List Nd):cntW (zbw x)≤cntW x:=by
 rcases zyk x with h|⟨m,rfl,_,_,_,h,_⟩
 ·rw [h];exact Nat.zero_le _
 ·rw [h,qec,qec]
  exact Tm.ytp wW ymq m
theorem yfv [Dfr] {S:T} {r:List Nd} {how:Int} (h:S.ok) (hw:zcp S.hd.1=true) (h6:how=2∨how=3→S.hd.1=6):cntW (znq (S.row++r) how)<cntW S.row:=by
 have hk:zgf (S.row++r)=S.kids.map T.row:=by unfold zgf;rw [qio h]
 have hx:ix (S.row++r) 0=S.hd:=by cases S<;>rfl
 have hS:cntW S.row=1+cntW (zgf (S.row++r)).flatten:=by
  have w1:wW S.hd=1:=by unfold wW;rw [if_pos hw]
  rw [hk]
  cases S with
  |n0 n=>rw [show (T.n0 n).row=[n] from rfl,zzv,show wW n=1 from w1];rfl
  |n1 n a=>rw [show (T.n1 n a).row=n::a.row from rfl,zzv,show wW n=1 from w1];simp [T.kids]
  |n2 n a b=>rw [show (T.n2 n a b).row=n::(a.row++b.row) from rfl,zzv,show wW n=1 from w1];simp [T.kids]
 have hpart:∀i:Nat,i<(zgf (S.row++r)).length→cntW (ix (zgf (S.row++r)) (i:Int))≤cntW (zgf (S.row++r)).flatten:=fun i hi=>by
  rw [qhg hi]
  exact (List.sublist_flatten_of_mem (List.getElem_mem hi)).countP_le
 unfold znq
 split
 ·rename_i h2
  have:=hpart 0 (by rw [qdv h (h6 (.inl h2))];omega)
  rw [Int.natCast_zero] at this
  omega
 ·split
  ·rename_i h3
   have:=hpart 1 (by rw [qdv h (h6 (.inr h3))];omega)
   have e:((1:Nat):Int)=1:=rfl
   rw [e] at this
   omega
  ·split
   ·split
    ·rw [show cntW [(14,ByteArray.empty,3),(2,ByteArray.empty,0)]=0 from rfl];omega
    ·rw [show cntW [(11,ByteArray.empty,3)]=0 from rfl];omega
   ·split
    ·rw [zzv,show wW (12,ByteArray.empty,0)=0 from rfl];omega
    ·rw [show cntW [(11,ByteArray.empty,1)]=0 from rfl];omega
theorem qgr [Dfr] {l:List Nd} {m:Mv} (hm:m∈enL l):(zds l m).2.2=0∧cntW (zds l m).1<cntW l∧(zds l m).1.length≤1000000∧(decide ((zds l m).2.1=⟨#[]⟩)= !decide (m.2=1)):=by
 obtain ⟨hs,t,k0,ht,hm1,hk0,hkw,hw,hin⟩:=ysv hm
 obtain ⟨k,S,r,h1,h2,h3,h4,h5,h6⟩:=yqf hm
 obtain rfl:k0=k:=by omega
 obtain ⟨n,hn,hfi,hz,_,_,_,_⟩:=zyl hs
 have hlen:l.length≤200:=by rw [hn,Tm.zab];exact hz
 have hmade:=yfv (r:=r) (how:=m.2) h3 (by rw [h5];exact hw) h6
 rw [←h4] at hmade
 have hml:=qyd (l.drop k0) m.2 (fun h=>by rw [h4];exact qdv h3 (h6 h))
 have hpl:=qxv l m.1 (znq (l.drop k0) m.2)
 have hdl:(l.drop k0).length=l.length-k0:=List.length_drop
 have hset:=qfv (putR l m.1 (znq (l.drop k0) m.2))
 have hput:cntW (putR l m.1 (znq (l.drop k0) m.2))<cntW l:=by
  have hsz:sz (l.drop k0)=S.size:=by unfold sz;rw [h4,qio h3]
  have hpos:=T.zpv S
  unfold putR
  rw [if_pos ⟨by omega,by omega,by rw [h1,Int.toNat_natCast,hsz];omega⟩,h1,Int.toNat_natCast,hsz,qed,qed]
  have e:l=l.take k0++(S.row++r):=by rw [←h4,List.take_append_drop]
  have e2:l.drop (k0+S.size)=r:=by rw [←List.drop_drop,h4,←T.zab S,List.drop_left]
  have e3:cntW l=cntW (l.take k0)+(cntW S.row+cntW r):=by
   conv=>lhs;rw [e]
   rw [qed,qed]
  rw [e2,e3]
  omega
 unfold zds
 rw [if_pos hm,h1,Int.toNat_natCast,←h1]
 refine ⟨rfl,Nat.lt_of_le_of_lt (qwi _) hput,by show (zbw (putR l m.1 (znq (l.drop k0) m.2))).length≤1000000;omega,?_⟩
 have hx:ix (l.drop k0) 0=l.getD k0 default:=by
  rw [h4,←h5];cases S<;>rfl
 have hr:right (l.getD k0 default)=true:=by
  refine zjc hfi _ ?_
  rw [←hn,List.getD_eq_getElem?_getD,List.getElem?_eq_getElem hk0]
  exact List.getElem_mem hk0
 show decide ((ix (l.drop k0) 0).2.1=⟨#[]⟩)=_
 rw [hx]
 generalize l.getD k0 default=q at hr hw hin
 have hq:q.1=1∨q.1=6∨q.1=4∨q.1=10:=by unfold zcp at hw;exact of_decide_eq_true hw
 have hm2:m.2=1↔q.1=1:=by
  unfold zit at hin
  constructor
  ·intro h
   by_cases e:q.1=1
   ·exact e
   ·rw [if_neg e] at hin
    split at hin
    ·simp only [List.mem_cons,List.not_mem_nil,or_false] at hin
     rcases hin with hin|hin<;>rw [hin] at h<;>simp at h
    ·simp only [List.mem_cons] at hin
     rcases hin with hin|hin
     ·rw [hin] at h;simp at h
     ·split at hin
      ·simp at hin;rw [hin] at h;simp at h
      ·cases hin
  ·intro e
   rw [if_pos e] at hin
   simp at hin;rw [hin]
 by_cases e:q.1=1
 ·rw [decide_eq_true (hm2.2 e)]
  unfold right at hr
  rw [if_pos e] at hr
  simp only [Bool.and_eq_true,qjn,decide_eq_true_eq] at hr
  refine decide_eq_false fun h=> ?_
  rw [h] at hr
  exact absurd hr.1.1 (by decide)
 ·rw [decide_eq_false (fun h=>e (hm2.1 h))]
  unfold right at hr
  rw [if_neg e,if_neg (by omega)] at hr
  simp only [Bool.and_eq_true,decide_eq_true_eq] at hr
  exact decide_eq_true hr.2.1
end Go.Proofs.YtjolkdjkhekbnaaGreatDoor.Sv
namespace Go.Rd
open Go Go.Sv
inductive Cx where
 |hole
 |seq (c:Cx) (b:Tm)
 |hand (c:Cx) (b:Tm)
 |going (c:Cx) (b:Tm)
 |stack (c:Cx) (b:Tm)
 |parL (c:Cx) (b:Tm)
 |parR (a:Tm) (c:Cx)
 |block (c:Cx)
namespace Cx
def fill:Cx→Tm→Tm
 |hole,x=>x
 |seq c b,x=>.seq (c.fill x) b
 |hand c b,x=>.hand (c.fill x) b
 |going c b,x=>.going (c.fill x) b
 |stack c b,x=>.stack (c.fill x) b
 |parL c b,x=>.par (c.fill x) b
 |parR a c,x=>.par a (c.fill x)
 |block c,x=>.block (c.fill x)
def pos:Cx→Nat
 |hole=>0
 |seq c _=>c.pos+1
 |hand c _=>c.pos+1
 |going c _=>c.pos+1
 |stack c _=>c.pos+1
 |parL c _=>c.pos+1
 |parR a c=>c.pos+1+a.size
 |block c=>c.pos+1
theorem zhw:∀c:Cx,∃A B:List Nd,A.length=c.pos∧∀x:Tm,(c.fill x).row=A++(x.row++B)
 |hole=>⟨[],[],rfl,fun x=>by simp [fill]⟩
 |seq c b=>by
  obtain ⟨A,B,h1,h2⟩:=zhw c
  exact ⟨nd 5::A,B++b.row,by simp [pos,h1],fun x=>by simp [fill,Tm.quj,h2]⟩
 |hand c b=>by
  obtain ⟨A,B,h1,h2⟩:=zhw c
  exact ⟨nd 8::A,B++b.row,by simp [pos,h1],fun x=>by simp [fill,Tm.qnp,h2]⟩
 |going c b=>by
  obtain ⟨A,B,h1,h2⟩:=zhw c
  exact ⟨nd 12::A,B++b.row,by simp [pos,h1],fun x=>by simp [fill,Tm.qgd,h2]⟩
 |stack c b=>by
  obtain ⟨A,B,h1,h2⟩:=zhw c
  exact ⟨nd 13::A,B++b.row,by simp [pos,h1],fun x=>by simp [fill,Tm.qfz,h2]⟩
 |parL c b=>by
  obtain ⟨A,B,h1,h2⟩:=zhw c
  exact ⟨nd 7::A,B++b.row,by simp [pos,h1],fun x=>by simp [fill,Tm.qno,h2]⟩
 |parR a c=>by
  obtain ⟨A,B,h1,h2⟩:=zhw c
  exact ⟨nd 7::(a.row++A),B,by simp only [List.length_cons,List.length_append,Tm.zab,pos,h1];omega,fun x=>by simp [fill,Tm.qno,h2]⟩
 |block c=>by
  obtain ⟨A,B,h1,h2⟩:=zhw c
  exact ⟨nd 9::A,B,by simp [pos,h1],fun x=>by simp [fill,Tm.zta,h2]⟩
theorem ygt (c:Cx) (x y:Tm):(c.fill x).size+y.size=(c.fill y).size+x.size:=by
 obtain ⟨A,B,h1,h2⟩:=zhw c
 have e1:=congrArg List.length (h2 x)
 have e2:=congrArg List.length (h2 y)
 simp only [List.length_append,Tm.zab] at e1 e2
 omega
theorem zcn:∀(c:Cx) {u x:Tm},(c.fill u).fine→(x.fine→(c.fill x).fine)∧u.fine
 |hole,u,x,h=>⟨fun k=>k,h⟩
 |seq c b,u,x,h=>⟨fun k=>⟨(zcn c h.1).1 k,h.2⟩,(zcn c (x:=x) h.1).2⟩
 |hand c b,u,x,h=>⟨fun k=>⟨(zcn c h.1).1 k,h.2⟩,(zcn c (x:=x) h.1).2⟩
 |going c b,u,x,h=>⟨fun k=>⟨(zcn c h.1).1 k,h.2⟩,(zcn c (x:=x) h.1).2⟩
 |stack c b,u,x,h=>⟨fun k=>⟨(zcn c h.1).1 k,h.2⟩,(zcn c (x:=x) h.1).2⟩
 |parL c b,u,x,h=>⟨fun k=>⟨(zcn c h.1).1 k,h.2⟩,(zcn c (x:=x) h.1).2⟩
 |parR a c,u,x,h=>⟨fun k=>⟨h.1,(zcn c h.2).1 k⟩,(zcn c (x:=x) h.2).2⟩
 |block c,u,x,h=>⟨fun k=>(zcn c (u:=u) h).1 k,(zcn c (x:=x) (u:=u) h).2⟩
theorem zla {u x:Tm} (h1:u.po=true→x.po=true) (h2:u.qo=true→x.qo=true):∀c:Cx,((c.fill u).po=true→(c.fill x).po=true)∧((c.fill u).qo=true→(c.fill x).qo=true)
 |hole=>⟨h1,h2⟩
 |seq c b=>by
  obtain ⟨k1,k2⟩:=zla h1 h2 c
  simp only [fill,Tm.po,Tm.qo,Bool.and_eq_true]
  exact ⟨fun h=>⟨k1 h.1,h.2⟩,fun h=>⟨k2 h.1,h.2⟩⟩
 |hand c b=>by
  obtain ⟨k1,k2⟩:=zla h1 h2 c
  simp only [fill,Tm.po,Tm.qo,Bool.and_eq_true]
  exact ⟨fun h=>⟨k1 h.1,h.2⟩,fun h=>h⟩
 |going c b=>by
  obtain ⟨k1,k2⟩:=zla h1 h2 c
  simp only [fill,Tm.po,Tm.qo,Bool.and_eq_true]
  exact ⟨fun h=>h,fun h=>⟨k1 h.1,h.2⟩⟩
 |stack c b=>by
  obtain ⟨k1,k2⟩:=zla h1 h2 c
  simp only [fill,Tm.po,Tm.qo,Bool.and_eq_true]
  exact ⟨fun h=>h,fun h=>⟨k2 h.1,h.2⟩⟩
 |parL c b=>by
  obtain ⟨k1,k2⟩:=zla h1 h2 c
  simp only [fill,Tm.po,Tm.qo,Bool.and_eq_true]
  exact ⟨fun h=>⟨k1 h.1,h.2⟩,fun h=>⟨k2 h.1,h.2⟩⟩
 |parR a c=>by
  obtain ⟨k1,k2⟩:=zla h1 h2 c
  simp only [fill,Tm.po,Tm.qo,Bool.and_eq_true]
  exact ⟨fun h=>⟨h.1,k1 h.2⟩,fun h=>⟨h.1,k2 h.2⟩⟩
 |block c=>by
  obtain ⟨k1,k2⟩:=zla h1 h2 c
  simp only [fill,Tm.po,Tm.qo]
  exact ⟨k2,fun h=>h⟩
theorem qci:∀(m:Tm) (i k:Nat),k∈m.t.wts i→∃(c:Cx) (u:Tm),m=c.fill u∧u.Wt∧k=i+c.pos
 | .act s,i,k,h=>⟨hole,.act s,rfl,.inl ⟨s,rfl⟩,by simpa [Tm.t,T.wts,zcp,pos] using h⟩
 | .yield,i,k,h=>⟨hole,.yield,rfl,.inr (.inr (.inl rfl)),by simpa [Tm.t,T.wts,zcp,pos] using h⟩
 | .alt a b,i,k,h=>⟨hole,.alt a b,rfl,.inr (.inl ⟨a,b,rfl⟩),by simpa [Tm.t,T.wts,zcp,pos] using h⟩
 | .pair a b,i,k,h=>⟨hole,.pair a b,rfl,.inr (.inr (.inr ⟨a,b,rfl⟩)),by simpa [Tm.t,T.wts,zcp,pos] using h⟩
 | .skip,i,k,h=>by simp [Tm.t,T.wts,zcp] at h
 | .throw,i,k,h=>by simp [Tm.t,T.wts,zcp] at h
 | .over s,i,k,h=>by simp [Tm.t,T.wts,zcp] at h
 | .fin s a,i,k,h=>by simp [Tm.t,T.wts,zcp,goK] at h
 | .seq a b,i,k,h=>by
   obtain ⟨c,u,rfl,h2,rfl⟩:=qci a (i+1) k (by simpa [Tm.t,T.wts,zcp,goK] using h)
   exact ⟨seq c b,u,rfl,h2,by simp only [pos];omega⟩
 | .hand a b,i,k,h=>by
   obtain ⟨c,u,rfl,h2,rfl⟩:=qci a (i+1) k (by simpa [Tm.t,T.wts,zcp,goK] using h)
   exact ⟨hand c b,u,rfl,h2,by simp only [pos];omega⟩
 | .going a b,i,k,h=>by
   obtain ⟨c,u,rfl,h2,rfl⟩:=qci a (i+1) k (by simpa [Tm.t,T.wts,zcp,goK] using h)
   exact ⟨going c b,u,rfl,h2,by simp only [pos];omega⟩
 | .stack a b,i,k,h=>by
   obtain ⟨c,u,rfl,h2,rfl⟩:=qci a (i+1) k (by simpa [Tm.t,T.wts,zcp,goK] using h)
   exact ⟨stack c b,u,rfl,h2,by simp only [pos];omega⟩
 | .block a,i,k,h=>by
   obtain ⟨c,u,rfl,h2,rfl⟩:=qci a (i+1) k (by simpa [Tm.t,T.wts,zcp,goK] using h)
   exact ⟨block c,u,rfl,h2,by simp only [pos];omega⟩
 | .par a b,i,k,h=>by
   have h':k∈a.t.wts (i+1)∨k∈b.t.wts (i+1+a.t.size):=by simpa [Tm.t,T.wts,zcp,goK] using h
   rcases h' with h'|h'
   ·obtain ⟨c,u,rfl,h2,rfl⟩:=qci a (i+1) k h'
    exact ⟨parL c b,u,rfl,h2,by simp only [pos];omega⟩
   ·obtain ⟨c,u,rfl,h2,rfl⟩:=qci b (i+1+a.t.size) k h'
    exact ⟨parR a c,u,rfl,h2,by simp only [pos,Tm.size];omega⟩
theorem qbn {u:Tm} (hu:u.Wt):∀(c:Cx) (i:Nat),i+c.pos∈(c.fill u).t.wts i
 |hole,i=>by
  rcases hu with ⟨s,rfl⟩|⟨a,b,rfl⟩|rfl|⟨a,b,rfl⟩<;>simp [fill,pos,Tm.t,T.wts,zcp]
 |seq c b,i=>by
  have:=qbn hu c (i+1)
  rw [show i+(seq c b).pos=i+1+c.pos by simp only [pos];omega]
  simpa [fill,Tm.t,T.wts,zcp,goK] using this
 |hand c b,i=>by
  have:=qbn hu c (i+1)
  rw [show i+(hand c b).pos=i+1+c.pos by simp only [pos];omega]
  simpa [fill,Tm.t,T.wts,zcp,goK] using this
 |going c b,i=>by
  have:=qbn hu c (i+1)
  rw [show i+(going c b).pos=i+1+c.pos by simp only [pos];omega]
  simpa [fill,Tm.t,T.wts,zcp,goK] using this
 |stack c b,i=>by
  have:=qbn hu c (i+1)
  rw [show i+(stack c b).pos=i+1+c.pos by simp only [pos];omega]
  simpa [fill,Tm.t,T.wts,zcp,goK] using this
 |block c,i=>by
  have:=qbn hu c (i+1)
  rw [show i+(block c).pos=i+1+c.pos by simp only [pos];omega]
  simpa [fill,Tm.t,T.wts,zcp,goK] using this
 |parL c b,i=>by
  have:=qbn hu c (i+1)
  rw [show i+(parL c b).pos=i+1+c.pos by simp only [pos];omega]
  simp [fill,Tm.t,T.wts,zcp,goK]
  exact .inl this
 |parR a c,i=>by
  have:=qbn hu c (i+1+a.t.size)
  rw [show i+(parR a c).pos=i+1+a.t.size+c.pos by simp only [pos,Tm.size];omega]
  simp [fill,Tm.t,T.wts,zcp,goK]
  exact .inr this
def bsd:Cx→List (List Nd)×Bool
 |hole=>([],false)
 |seq c _=>c.bsd
 |hand c _=>c.bsd
 |going c _=>c.bsd
 |stack c _=>c.bsd
 |parL c b=>if c.bsd.2=true then (c.bsd.1,true) else (c.bsd.1++[b.row],false)
 |parR a c=>if c.bsd.2=true then (c.bsd.1,true) else (c.bsd.1++[a.row],false)
 |block c=>(c.bsd.1,true)
theorem yey (t:T) (i:Nat):t.path i i=[]:=by
 cases t with
 |n0 n=>rfl
 |n1 n a=>rw [T.zox,if_pos rfl]
 |n2 n a b=>rw [T.zfx,if_pos rfl]
theorem qrn (u:Tm):∀c:Cx,c.pos<(c.fill u).size:=fun c=>by
 obtain ⟨A,B,h1,h2⟩:=zhw c
 have e1:=congrArg List.length (h2 u)
 have h3:=u.zhu
 simp only [List.length_append,Tm.zab] at e1
 omega
theorem zoj (u:Tm):∀(c:Cx) (i:Nat),zaz ((c.fill u).t.path i (i+c.pos))=c.bsd
 |hole,i=>by
  show zaz (u.t.path i (i+0))=_
  rw [Nat.add_zero,yey];rfl
 |seq c b,i=>by
  have ih:=zoj u c (i+1)
  have hl:=qrn u c
  have e:i+(seq c b).pos=i+1+c.pos:=by simp only [pos];omega
  show zaz ((T.n2 (nd 5) (c.fill u).t b.t).path i _)=_
  rw [e,T.zfx,if_neg (by omega),if_pos (by unfold Tm.size at hl;omega),zaz,ih]
  show (if c.bsd.2=true then (c.bsd.1,true) else (c.bsd.1,false))=c.bsd
  split<;>rename_i h<;>exact Prod.ext rfl (by simp [h])
 |hand c b,i=>by
  have ih:=zoj u c (i+1)
  have hl:=qrn u c
  have e:i+(hand c b).pos=i+1+c.pos:=by simp only [pos];omega
  show zaz ((T.n2 (nd 8) (c.fill u).t b.t).path i _)=_
  rw [e,T.zfx,if_neg (by omega),if_pos (by unfold Tm.size at hl;omega),zaz,ih]
  show (if c.bsd.2=true then (c.bsd.1,true) else (c.bsd.1,false))=c.bsd
  split<;>rename_i h<;>exact Prod.ext rfl (by simp [h])
 |going c b,i=>by
  have ih:=zoj u c (i+1)
  have hl:=qrn u c
  have e:i+(going c b).pos=i+1+c.pos:=by simp only [pos];omega
  show zaz ((T.n2 (nd 12) (c.fill u).t b.t).path i _)=_
  rw [e,T.zfx,if_neg (by omega),if_pos (by unfold Tm.size at hl;omega),zaz,ih]
  show (if c.bsd.2=true then (c.bsd.1,true) else (c.bsd.1,false))=c.bsd
  split<;>rename_i h<;>exact Prod.ext rfl (by simp [h])
 |stack c b,i=>by
  have ih:=zoj u c (i+1)
  have hl:=qrn u c
  have e:i+(stack c b).pos=i+1+c.pos:=by simp only [pos];omega
  show zaz ((T.n2 (nd 13) (c.fill u).t b.t).path i _)=_
  rw [e,T.zfx,if_neg (by omega),if_pos (by unfold Tm.size at hl;omega),zaz,ih]
  show (if c.bsd.2=true then (c.bsd.1,true) else (c.bsd.1,false))=c.bsd
  split<;>rename_i h<;>exact Prod.ext rfl (by simp [h])
 |block c,i=>by
  have ih:=zoj u c (i+1)
  have e:i+(block c).pos=i+1+c.pos:=by simp only [pos];omega
  show zaz ((T.n1 (nd 9) (c.fill u).t).path i _)=_
  rw [e,T.zox,if_neg (by omega),zaz,ih]
  show (if c.bsd.2=true then (c.bsd.1,true) else (c.bsd.1,true))=_
  rw [ite_self];rfl
 |parL c b,i=>by
  have ih:=zoj u c (i+1)
  have hl:=qrn u c
  have e:i+(parL c b).pos=i+1+c.pos:=by simp only [pos];omega
  show zaz ((T.n2 (nd 7) (c.fill u).t b.t).path i _)=_
  rw [e,T.zfx,if_neg (by omega),if_pos (by unfold Tm.size at hl;omega),zaz,ih]
  rfl
 |parR a c,i=>by
  have ih:=zoj u c (i+1+a.t.size)
  have e:i+(parR a c).pos=i+1+a.t.size+c.pos:=by simp only [pos,Tm.size];omega
  show zaz ((T.n2 (nd 7) a.t (c.fill u).t).path i _)=_
  rw [e,T.zfx,if_neg (by omega),if_neg (by omega),zaz,ih]
  rfl
end Cx
namespace Tm
def mdT:Tm→Int→Tm
 |act _,_=>over 1
 |alt a b,how=>if how=2 then a else b
 |pair a b,how=>if how=5 then fin 3 skip else going a b
 |_,how=>if how=5 then over 3 else over 1
end Tm
end Go.Rd
