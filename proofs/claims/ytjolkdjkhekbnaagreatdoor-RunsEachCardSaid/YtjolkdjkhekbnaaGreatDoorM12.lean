/- The stack that a walk over a row keeps; what stands on top of it is the place above: plain Lean. -/
import Derived.Test.YtjolkdjkhekbnaaGreatDoorM11
import Derived.Test.YtjolkdjkhekbnaaGreatDoorM5
namespace Go.Rd
open Go Go.Sv
abbrev Stk:=List (Nat×Nat)
def topO:Stk→Int
 |[]=> -1
 |x::_=>(x.1:Int)
def decS:Stk→Stk
 |[]=>[]
 |x::r=>(x.1,x.2-1)::r
def popZ:Stk→Stk
 |[]=>[]
 |x::r=>if x.2=0 then popZ r else x::r
def zpm (ar k:Nat) (S:Stk):Stk:=if 0<ar then (k,ar)::decS S else popZ (decS S)
def stkS (ars:Nat→Nat):Nat→Stk
 |0=>[]
 |k+1=>zpm (ars k) k (stkS ars k)
def runS (ars:Nat→Nat) (S:Stk) (i:Nat):Nat→Stk
 |0=>S
 |d+1=>runS ars (zpm (ars i) i S) (i+1) d
theorem qdr (ars:Nat→Nat):∀(d e:Nat) (S:Stk) (i:Nat),runS ars S i (d+e)=runS ars (runS ars S i d) (i+d) e
 |0,e,S,i=>by simp [runS]
 |d+1,e,S,i=>by
  rw [show d+1+e=(d+e)+1 by omega,runS,runS,qdr ars d e,show i+1+d=i+(d+1) by omega]
theorem qqu (ars:Nat→Nat):∀k,runS ars [] 0 k=stkS ars k
 |0=>rfl
 |k+1=>by rw [qdr ars k 1,qqu ars k,Nat.zero_add];rfl
namespace T
def ybh (ars:Nat→Nat):T→Nat→Prop
 |n0 _,i=>ars i=0
 |n1 _ a,i=>ars i=1∧a.ybh ars (i+1)
 |n2 _ a b,i=>ars i=2∧a.ybh ars (i+1)∧b.ybh ars (i+1+a.size)
def par:T→Int→Nat→Nat→Int
 |n0 _,q,_,_=>q
 |n1 _ a,q,i,k=>if k=i then q else a.par i (i+1) k
 |n2 _ a b,q,i,k=>if k=i then q else if k<i+1+a.size then a.par i (i+1) k else b.par i (i+1+a.size) k
theorem zpv:∀t:T,0<t.size
 |n0 _=>by simp [size]
 |n1 _ _=>by simp [size]
 |n2 _ _ _=>by simp [size]
theorem qdq (ars:Nat→Nat):∀(t:T) (i:Nat) (S:Stk),t.ybh ars i→runS ars S i t.size=popZ (decS S)∧∀k,i≤k→k<i+t.size→topO (runS ars S i (k-i))=t.par (topO S) i k
 |n0 n,i,S,h=>by
  have h:ars i=0:=h
  refine ⟨?_,fun k h1 h2=> ?_⟩
  ·show zpm (ars i) i S=_
   simp [zpm,h]
  ·simp only [size] at h2
   rw [show k-i=0 by omega];rfl
 |n1 n a,i,S,h=>by
  obtain ⟨h0,ha⟩:=h
  obtain ⟨e1,e2⟩:=qdq ars a (i+1) ((i,1)::decS S) ha
  have es:zpm (ars i) i S=(i,1)::decS S:=by simp [zpm,h0]
  refine ⟨?_,fun k h1 h2=> ?_⟩
  ·rw [show (n1 n a).size=a.size+1 from rfl,runS,es,e1];rfl
  ·simp only [size] at h2
   by_cases hk:k=i
   ·subst hk;rw [Nat.sub_self];show topO S=_;unfold par;rw [if_pos rfl]
   ·rw [show k-i=(k-(i+1))+1 by omega,runS,es,e2 k (by omega) (by omega)]
    show _=par (n1 n a) (topO S) i k
    rw [par,if_neg hk];rfl
 |n2 n a b,i,S,h=>by
  obtain ⟨h0,ha,hb⟩:=h
  obtain ⟨e1,e2⟩:=qdq ars a (i+1) ((i,2)::decS S) ha
  obtain ⟨e3,e4⟩:=qdq ars b (i+1+a.size) ((i,1)::decS S) hb
  have es:zpm (ars i) i S=(i,2)::decS S:=by simp [zpm,h0]
  have e1':runS ars ((i,2)::decS S) (i+1) a.size=(i,1)::decS S:=by rw [e1];rfl
  refine ⟨?_,fun k h1 h2=> ?_⟩
  ·rw [show (n2 n a b).size=(a.size+b.size)+1 from rfl,runS,es,qdr,e1',e3];rfl
  ·simp only [size] at h2
   by_cases hk:k=i
   ·subst hk;rw [Nat.sub_self];show topO S=_;unfold par;rw [if_pos rfl]
   ·rw [show k-i=(k-(i+1))+1 by omega,runS,es]
    show _=par (n2 n a b) (topO S) i k
    rw [par,if_neg hk]
    by_cases hk2:k<i+1+a.size
    ·rw [if_pos hk2,e2 k (by omega) hk2];rfl
    ·rw [if_neg hk2,show k-(i+1)=a.size+(k-(i+1+a.size)) by omega,qdr,e1',e4 k (by omega) (by omega)];rfl
theorem qds:∀(t:T) (q:Int) (i k:Nat),i≤k→k<i+t.size→(k=i∧t.par q i k=q)∨∃p:Nat,t.par q i k=(p:Int)∧i≤p∧p<k∧(t.path i k).map (·.1)=(t.path i p).map (·.1)++[p]
 |n0 n,q,i,k,h1,h2=>by
  simp only [size] at h2
  exact .inl ⟨by omega,rfl⟩
 |n1 n a,q,i,k,h1,h2=>by
  simp only [size] at h2
  by_cases hk:k=i
  ·exact .inl ⟨hk,by rw [par,if_pos hk]⟩
  ·right
   rw [par,if_neg hk,zox,if_neg hk]
   rcases qds a (i:Int) (i+1) k (by omega) (by omega) with ⟨e1,e2⟩|⟨p,e1,e2,e3,e4⟩
   ·refine ⟨i,e2,Nat.le_refl _,by omega,?_⟩
    subst e1
    have:a.path (i+1) (i+1)=[]:=by cases a<;>simp [path]
    rw [this,zox,if_pos rfl];rfl
   ·refine ⟨p,e1,by omega,e3,?_⟩
    rw [zox,if_neg (by omega),List.map_cons,List.map_cons,e4];rfl
 |n2 n a b,q,i,k,h1,h2=>by
  simp only [size] at h2
  by_cases hk:k=i
  ·exact .inl ⟨hk,by rw [par,if_pos hk]⟩
  ·right
   rw [par,if_neg hk,zfx,if_neg hk]
   by_cases hk2:k<i+1+a.size
   ·rw [if_pos hk2,if_pos hk2]
    rcases qds a (i:Int) (i+1) k (by omega) hk2 with ⟨e1,e2⟩|⟨p,e1,e2,e3,e4⟩
    ·refine ⟨i,e2,Nat.le_refl _,by omega,?_⟩
     subst e1
     have:a.path (i+1) (i+1)=[]:=by cases a<;>simp [path]
     rw [this,zfx,if_pos rfl];rfl
    ·refine ⟨p,e1,by omega,e3,?_⟩
     rw [zfx,if_neg (by omega),if_pos (by omega),List.map_cons,List.map_cons,e4];rfl
   ·rw [if_neg hk2,if_neg hk2]
    rcases qds b (i:Int) (i+1+a.size) k (by omega) (by omega) with ⟨e1,e2⟩|⟨p,e1,e2,e3,e4⟩
    ·refine ⟨i,e2,Nat.le_refl _,by omega,?_⟩
     subst e1
     have:b.path (i+1+a.size) (i+1+a.size)=[]:=by cases b<;>simp [path]
     rw [this,zfx,if_pos rfl];rfl
    ·refine ⟨p,e1,by omega,e3,?_⟩
     rw [zfx,if_neg (by omega),if_neg (by omega),List.map_cons,List.map_cons,e4];rfl
theorem ysh (t:T):∀i,i<t.size→(t.par (-1) 0 i= -1∧t.ovr i=[])∨(0≤t.par (-1) 0 i∧t.par (-1) 0 i<i∧t.ovr i=t.ovr (t.par (-1) 0 i).toNat++[(t.par (-1) 0 i).toNat]):=fun i hi=>by
 rcases qds t (-1) 0 i (Nat.zero_le _) (by omega) with ⟨e1,e2⟩|⟨p,e1,e2,e3,e4⟩
 ·left
  refine ⟨e2,?_⟩
  subst e1
  unfold ovr
  cases t<;>simp [path]
 ·right
  rw [e1]
  refine ⟨by omega,by omega,?_⟩
  rw [Int.toNat_natCast]
  exact e4
theorem yqy (ars:Nat→Nat) (t:T) (h:t.ybh ars 0) (k:Nat) (hk:k<t.size):topO (stkS ars k)=t.par (-1) 0 k:=by
 have:=(qdq ars t 0 [] h).2 k (Nat.zero_le _) (by omega)
 rw [Nat.sub_zero,qqu] at this
 exact this
end T
theorem qqb (ars:Nat→Nat):∀k,(∀j,j<k→ars j≤2)→(∀x∈stkS ars k,x.1<k∧x.2≤2)∧(stkS ars k).length≤k∧∀x r,stkS ars k=x::r→0<x.2
 |0,_=>⟨fun x hx=>(by cases hx),Nat.le_refl _,fun x r h=>by cases h⟩
 |k+1,h=>by
  obtain ⟨h1,h2,h3⟩:=qqb ars k fun j hj=>h j (by omega)
  have d1:∀x∈decS (stkS ars k),x.1<k+1∧x.2≤2:=fun x hx=>by
   revert hx h1
   cases stkS ars k with
   |nil=>intro _ hx;cases hx
   |cons y r =>
    intro h1 hx
    rcases List.mem_cons.1 hx with rfl|hx
    ·have:=h1 y (List.mem_cons_self ..)
     exact ⟨by show y.1<_;omega,by show y.2-1≤_;omega⟩
    ·have:=h1 x (List.mem_cons_of_mem _ hx)
     exact ⟨by omega,this.2⟩
  have d2:(decS (stkS ars k)).length≤k:=by
   revert h2
   cases stkS ars k<;>exact id
  have p1:∀(S:Stk),(∀x∈popZ S,x∈S)∧(popZ S).length≤S.length∧∀x r,popZ S=x::r→0<x.2:=by
   intro S
   induction S with
   |nil=>exact ⟨fun x hx=>hx,Nat.le_refl _,fun x r h=>by cases h⟩
   |cons y r ih =>
    obtain ⟨i1,i2,i3⟩:=ih
    unfold popZ
    split
    ·exact ⟨fun x hx=>List.mem_cons_of_mem _ (i1 x hx),by simp;omega,i3⟩
    ·exact ⟨fun x hx=>hx,Nat.le_refl _,fun x r' h=>by cases h;omega⟩
  show (∀x∈zpm (ars k) k (stkS ars k),_)∧_∧_
  have hk:=h k (by omega)
  show (∀x∈zpm (ars k) k (stkS ars k),x.1<k+1∧x.2≤2)∧(zpm (ars k) k (stkS ars k)).length≤k+1∧∀x r,zpm (ars k) k (stkS ars k)=x::r→0<x.2
  unfold zpm
  split
  ·rename_i ha
   refine ⟨fun x hx=> ?_,by simp;omega,fun x r h=>by cases h;exact ha⟩
   rcases List.mem_cons.1 hx with rfl|hx
   ·exact ⟨by show k<k+1;omega,hk⟩
   ·exact d1 x hx
  ·obtain ⟨q1,q2,q3⟩:=p1 (decS (stkS ars k))
   exact ⟨fun x hx=>d1 x (q1 x hx),by omega,q3⟩
noncomputable def zqc (l:List Nd) (k:Int):Option (List Int):=match tree l with
 |some t=>if l.length≤1000000∧0≤k∧k<l.length then some ((t.ovr k.toNat).map fun (i:Nat)=>(i:Int)) else none
 |none=>none
theorem T.zuo:∀(t:T) (i k:Nat),(t.path i k).length≤t.size
 | .n0 n,i,k=>Nat.zero_le _
 | .n1 n a,i,k=>by
   rw [T.zox]
   have:=T.zuo a (i+1) k
   split
   ·simp
   ·simp only [List.length_cons,T.size];omega
 | .n2 n a b,i,k=>by
   rw [T.zfx]
   have h1:=T.zuo a (i+1) k
   have h2:=T.zuo b (i+1+a.size) k
   split
   ·simp
   ·split
    ·simp only [List.length_cons,T.size];omega
    ·simp only [List.length_cons,T.size];omega
theorem qmq {α:Type} {l:List α} {i:Nat} {x:α} {r:List α} (h:l.drop i=x::r):(l.take (i+1)).drop i=[x]:=by
 rw [List.drop_take,h,show i+1-i=1 by omega];rfl
def T.bang:T→Bool
 |n0 n=>if n.1=11 then decide (n.2.2=2) else false
 |n1 n a=>if n.1=14 then decide (n.2.2=2) else false
 |n2 n a b=>if n.1=5∨n.1=12∨n.1=13 then a.bang else if n.1=7 then a.bang||b.bang else false
namespace Tm
end Tm
end Go.Rd
