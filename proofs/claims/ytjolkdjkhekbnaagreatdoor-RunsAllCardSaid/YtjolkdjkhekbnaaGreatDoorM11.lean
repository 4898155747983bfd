/- Places that wait, what lies above and beside them: plain Lean, no program in sight. -/
import Derived.Test.YtjolkdjkhekbnaaGreatDoorM7
import Derived.RangeFuncNested
import Derived.TacticsInMore
import Derived.LoopNIn
import Derived.LoopIn
set_option linter.unusedVariables false
set_option linter.unusedSimpArgs false
namespace Go.Rd
open Go Go.Sv
def goK (k:Int):Nat:=if k=5∨k=8∨k=12∨k=13∨k=9 then 1 else if k=7 then 2 else 0
def zdo (k:Int):Bool:=decide (k=1∨k=6∨k=4∨k=10)
theorem ymo {k:Int} (h:zdo k=true):goK k=0:=by rcases of_decide_eq_true h with rfl|rfl|rfl|rfl<;>rfl
namespace T
def wts:T→Nat→List Nat
 |n0 n,i=>if zdo n.1 then [i] else []
 |n1 n a,i=>if zdo n.1 then [i] else if 0<goK n.1 then a.wts (i+1) else []
 |n2 n a b,i=>if zdo n.1 then [i] else (if 0<goK n.1 then a.wts (i+1) else [])++(if 1<goK n.1 then b.wts (i+1+a.size) else [])
def path:T→Nat→Nat→List (Nat×Nat×T)
 |n0 _,_,_=>[]
 |n1 n a,i,k=>if k=i then [] else (i,0,n1 n a)::a.path (i+1) k
 |n2 n a b,i,k=>if k=i then [] else if k<i+1+a.size then (i,0,n2 n a b)::a.path (i+1) k else (i,1,n2 n a b)::b.path (i+1+a.size) k
theorem zpb (n:Nd) (a:T) (i k:Nat):(n1 n a).path i k=if k=i then [] else (i,0,n1 n a)::a.path (i+1) k:=rfl
theorem zgm (n:Nd) (a b:T) (i k:Nat):(n2 n a b).path i k=if k=i then [] else if k<i+1+a.size then (i,0,n2 n a b)::a.path (i+1) k else (i,1,n2 n a b)::b.path (i+1+a.size) k:=rfl
def ovr (t:T) (k:Nat):List Nat:=(t.path 0 k).map (·.1)
def kid (s:T) (j:Nat):List Nd:=match s.kids[j]? with|some c=>c.row|none=>[]
end T
def qcm (p:List (Nat×Nat×T)):Bool:=p.any fun x=>decide (goK x.2.2.hd.1≤x.2.1)
theorem yeu (i n m:Nat):List.range' i (n+m+1)=i::(List.range' (i+1) n++List.range' (i+1+n) m):=by rw [show n+m+1=1+(n+m) by omega,←List.range'_append_1 (s:=i) (m:=1) (n:=n+m),←List.range'_append_1 (s:=i+1)];rfl
theorem zxs {α:Type} {p:α→Bool} {l:List α} (h:∀x∈l,p x=false):l.filter p=[]:=by rw [List.filter_eq_nil_iff];intro x hx;rw [h x hx];simp
theorem zle (l:List Nd):∀(t:T) (i:Nat) (r:List Nd),l.drop i=t.row++r→t.wts i=(List.range' i t.size).filter fun k=>zdo (l.getD k default).1&& !qcm (t.path i k)
 | .n0 n,i,r,h=>by
   have h0:l.getD i default=n:=by
    have:l[i]? =some n:=by rw [←List.head?_drop,h];rfl
    rw [List.getD_eq_getElem?_getD,this];rfl
   show (if zdo n.1 then [i] else [])=([i].filter _);simp only [List.filter_cons,List.filter_nil,h0,T.path,qcm,List.any_nil,Bool.not_false,Bool.and_true]
 | .n1 n a,i,r,h=>by
   have h0:l.getD i default=n:=by
    have:l[i]? =some n:=by rw [←List.head?_drop,h];rfl
    rw [List.getD_eq_getElem?_getD,this];rfl
   have ha:l.drop (i+1)=a.row++r:=by rw [←List.drop_drop,h];rfl
   have hp:∀k∈List.range' (i+1) a.size,qcm ((T.n1 n a).path i k)=(decide (goK n.1≤0)||qcm (a.path (i+1) k)):=fun k hk=>by rw [List.mem_range'_1] at hk;rw [T.zpb,if_neg (by omega)];rfl
   have e0:qcm ((T.n1 n a).path i i)=false:=by rw [T.zpb,if_pos rfl];rfl
   show (if zdo n.1 then [i] else if 0<goK n.1 then a.wts (i+1) else [])=(List.range' i (a.size+1)).filter _;rw [show List.range' i (a.size+1)=i::List.range' (i+1) a.size from rfl,List.filter_cons,h0,e0,Bool.not_false,Bool.and_true];have ih:=zle l a (i+1) r ha;by_cases hg:0<goK n.1
   ·have hw:zdo n.1=false:=by cases hw:zdo n.1;rfl;rw [ymo hw] at hg;omega
    rw [hw,if_pos hg,ih];simp only [Bool.false_eq_true,if_false];refine List.filter_congr fun k hk=> ?_
    rw [hp k hk,decide_eq_false (by omega),Bool.false_or]
   ·rw [if_neg hg,zxs (l:=List.range' (i+1) a.size) fun k hk=>by rw [hp k hk,decide_eq_true (by omega)];simp]
 | .n2 n a b,i,r,h=>by
   have h0:l.getD i default=n:=by
    have:l[i]? =some n:=by rw [←List.head?_drop,h];rfl
    rw [List.getD_eq_getElem?_getD,this];rfl
   have ha:l.drop (i+1)=a.row++(b.row++r):=by rw [←List.drop_drop,h];simp [T.row]
   have hb:l.drop (i+1+a.size)=b.row++r:=by rw [←List.drop_drop,ha,←T.zac a,List.drop_left]
   have hpa:∀k∈List.range' (i+1) a.size,qcm ((T.n2 n a b).path i k)=(decide (goK n.1≤0)||qcm (a.path (i+1) k)):=fun k hk=>by rw [List.mem_range'_1] at hk;rw [T.zgm,if_neg (by omega),if_pos (by omega)];rfl
   have hpb:∀k∈List.range' (i+1+a.size) b.size,qcm ((T.n2 n a b).path i k)=(decide (goK n.1≤1)||qcm (b.path (i+1+a.size) k)):=fun k hk=>by rw [List.mem_range'_1] at hk;rw [T.zgm,if_neg (by omega),if_neg (by omega)];rfl
   have e0:qcm ((T.n2 n a b).path i i)=false:=by rw [T.zgm,if_pos rfl];rfl
   show (if zdo n.1 then [i] else (if 0<goK n.1 then a.wts (i+1) else [])++(if 1<goK n.1 then b.wts (i+1+a.size) else []))=(List.range' i (a.size+b.size+1)).filter _;rw [yeu,List.filter_cons,List.filter_append,h0,e0,Bool.not_false,Bool.and_true];have iha:=zle l a (i+1) _ ha;have ihb:=zle l b (i+1+a.size) r hb;by_cases hg:0<goK n.1
   ·have hw:zdo n.1=false:=by cases hw:zdo n.1;rfl;rw [ymo hw] at hg;omega
    rw [hw,if_pos hg,iha];simp only [Bool.false_eq_true,if_false]
    congr 1
    ·refine List.filter_congr fun k hk=> ?_
     rw [hpa k hk,decide_eq_false (by omega),Bool.false_or]
    ·by_cases hg2:1<goK n.1
     ·rw [if_pos hg2,ihb];refine List.filter_congr fun k hk=> ?_
      rw [hpb k hk,decide_eq_false (by omega),Bool.false_or]
     ·rw [if_neg hg2,zxs (l:=List.range' (i+1+a.size) b.size) fun k hk=>by rw [hpb k hk,decide_eq_true (by omega)];simp]
   ·have hg2:¬1<goK n.1:=by omega
    rw [if_neg hg,if_neg hg2,zxs (l:=List.range' (i+1) a.size) fun k hk=>by rw [hpa k hk,decide_eq_true (by omega)];simp,
     zxs (l:=List.range' (i+1+a.size) b.size) fun k hk=>by rw [hpb k hk,decide_eq_true (by omega)];simp]
    rfl
def yhb (l:List Nd) (at_:Nat) (x:Nat×Nat×T):Prop:=x.2.2.ok∧(∃r,l.drop x.1=x.2.2.row++r)∧x.1<at_∧match x.2.2 with
 | .n0 _=>False
 | .n1 _ a=>x.2.1=0∧at_<x.1+1+a.size
 | .n2 _ a b=>(x.2.1=0∧at_<x.1+1+a.size)∨(x.2.1=1∧x.1+1+a.size≤at_∧at_<x.1+1+a.size+b.size)
theorem qrb (l:List Nd) (k:Nat):∀(t:T) (i:Nat) (r:List Nd),t.ok→l.drop i=t.row++r→i≤k→k<i+t.size→∀x∈t.path i k,yhb l k x
 | .n0 n,i,r,ht,h,h1,h2,x,hx=>by cases hx
 | .n1 n a,i,r,ht,h,h1,h2,x,hx=>by
   simp only [T.size] at h2;rw [T.zpb] at hx;split at hx
   ·cases hx
   ·rename_i hne;have ha:l.drop (i+1)=a.row++r:=by rw [←List.drop_drop,h];rfl
    rcases List.mem_cons.1 hx with rfl|hx
    ·exact ⟨ht,⟨r,h⟩,show i<k by omega,rfl,show k<i+1+a.size by omega⟩
    ·exact qrb l k a (i+1) r ht.2 ha (by omega) (by omega) x hx
 | .n2 n a b,i,r,ht,h,h1,h2,x,hx=>by
   simp only [T.size] at h2;have ha:l.drop (i+1)=a.row++(b.row++r):=by rw [←List.drop_drop,h];simp [T.row]
   have hb:l.drop (i+1+a.size)=b.row++r:=by rw [←List.drop_drop,ha,←T.zac a,List.drop_left]
   rw [T.zgm] at hx;split at hx
   ·cases hx
   ·rename_i hne;split at hx
    ·rename_i hlt;rcases List.mem_cons.1 hx with rfl|hx
     ·exact ⟨ht,⟨r,h⟩,show i<k by omega,.inl ⟨rfl,hlt⟩⟩
     ·exact qrb l k a (i+1) _ ht.2.1 ha (by omega) (by omega) x hx
    ·rename_i hlt;rcases List.mem_cons.1 hx with rfl|hx
     ·exact ⟨ht,⟨r,h⟩,show i<k by omega,.inr ⟨rfl,show i+1+a.size≤k by omega,show k<i+1+a.size+b.size by omega⟩⟩
     ·exact qrb l k b (i+1+a.size) r ht.2.2 hb (by omega) (by omega) x hx
theorem zys:∀(t:T) (i:Nat),∀k∈t.wts i,i≤k∧k<i+t.size
 | .n0 n,i,k,h=>by
   unfold T.wts at h;split at h
   ·rw [List.mem_singleton] at h;subst h;exact ⟨Nat.le_refl _,by simp [T.size]⟩
   ·cases h
 | .n1 n a,i,k,h=>by
   unfold T.wts at h;simp only [T.size];split at h
   ·rw [List.mem_singleton] at h;omega
   ·split at h
    ·have:=zys a (i+1) k h;omega
    ·cases h
 | .n2 n a b,i,k,h=>by
   unfold T.wts at h;simp only [T.size];split at h
   ·rw [List.mem_singleton] at h;omega
   ·rcases List.mem_append.1 h with h|h
    ·split at h
     ·have:=zys a (i+1) k h;omega
     ·cases h
    ·split at h
     ·have:=zys b (i+1+a.size) k h;omega
     ·cases h
theorem qfv:∀(t:T) (i j:Nat),t.wts (i+j)=(t.wts i).map (· +j)
 | .n0 n,i,j=>by unfold T.wts;split<;>rfl
 | .n1 n a,i,j=>by
   unfold T.wts;split
   ·rfl
   ·split
    ·rw [show i+j+1=i+1+j by omega,qfv a]
    ·rfl
 | .n2 n a b,i,j=>by
   unfold T.wts;split
   ·rfl
   ·rw [List.map_append]
    congr 1
    ·split
     ·rw [show i+j+1=i+1+j by omega,qfv a]
     ·rfl
    ·split
     ·rw [show i+j+1+a.size=i+1+a.size+j by omega,qfv b]
     ·rfl
def zaq:List (Nat×Nat×T)→List (List Nd)×Bool
 |[]=>([],false)
 |x::r=>if (zaq r).2=true then ((zaq r).1,true) else if x.2.2.hd.1=7 then ((zaq r).1++[x.2.2.kid (1-x.2.1)],false) else ((zaq r).1,decide (x.2.2.hd.1=9))
def revB:List (Nat×Nat×T)→List (List Nd)→List (List Nd)×Bool
 |[],out=>(out,false)
 |x::r,out=>if x.2.2.hd.1=9 then (out,true) else if x.2.2.hd.1=7 then revB r (out++[x.2.2.kid (1-x.2.1)]) else revB r out
theorem qel:∀(p q:List (Nat×Nat×T)) (out:List (List Nd)),revB (p++q) out=if (revB p out).2=true then revB p out else revB q (revB p out).1
 |[],q,out=>by simp [revB]
 |x::p,q,out=>by
  simp only [List.cons_append,revB];split
  ·simp
  ·split
   ·exact qel p q _
   ·exact qel p q _
theorem qlj:∀(p:List (Nat×Nat×T)),revB p.reverse []=zaq p
 |[]=>rfl
 |x::p=>by
  rw [List.reverse_cons,qel,qlj p,zaq];split
  ·rename_i h;exact Prod.ext rfl h
  ·rename_i h;simp only [revB];by_cases h9:x.2.2.hd.1=9
   ·rw [if_pos h9,if_neg (by rw [h9];decide),decide_eq_true h9]
   ·by_cases h7:x.2.2.hd.1=7
    ·rw [if_neg h9,if_pos h7,if_pos h7]
    ·rw [if_neg h9,if_neg h7,if_neg h7,decide_eq_false h9]
theorem qqb (t:T):t.hd∈t.row:=by cases t<;>simp [T.hd,T.row]
theorem yat:∀(t:T) (i k:Nat),t.ok→∀x∈t.path i k,x.2.2.hd∈t.row∧(x.2.2.hd.1=7→∃c:T,c.ok∧c.size≤t.size∧x.2.2.kid (1-x.2.1)=c.row)
 | .n0 n,i,k,ht,x,hx=>by cases hx
 | .n1 n a,i,k,ht,x,hx=>by
   rw [T.zpb] at hx;split at hx
   ·cases hx
   ·rcases List.mem_cons.1 hx with rfl|hx
    ·refine ⟨qqb _,fun h7=> ?_⟩;have h7:n.1=7:=h7;have:=ht.1;rw [h7] at this;cases this
    ·obtain ⟨h1,h2⟩:=yat a (i+1) k ht.2 x hx;refine ⟨List.mem_cons_of_mem _ h1,fun h7=> ?_⟩;obtain ⟨c,c1,c2,c3⟩:=h2 h7;exact ⟨c,c1,by simp only [T.size];omega,c3⟩
 | .n2 n a b,i,k,ht,x,hx=>by
   rw [T.zgm] at hx;split at hx
   ·cases hx
   ·split at hx
    ·rcases List.mem_cons.1 hx with rfl|hx
     ·exact ⟨qqb _,fun h7=>⟨b,ht.2.2,by simp only [T.size];omega,rfl⟩⟩
     ·obtain ⟨h1,h2⟩:=yat a (i+1) k ht.2.1 x hx;refine ⟨List.mem_cons_of_mem _ (List.mem_append_left _ h1),fun h7=> ?_⟩;obtain ⟨c,c1,c2,c3⟩:=h2 h7;exact ⟨c,c1,by simp only [T.size];omega,c3⟩
    ·rcases List.mem_cons.1 hx with rfl|hx
     ·exact ⟨qqb _,fun h7=>⟨a,ht.2.1,by simp only [T.size];omega,rfl⟩⟩
     ·obtain ⟨h1,h2⟩:=yat b (i+1+a.size) k ht.2.2 x hx;refine ⟨List.mem_cons_of_mem _ (List.mem_append_right _ h1),fun h7=> ?_⟩;obtain ⟨c,c1,c2,c3⟩:=h2 h7;exact ⟨c,c1,by simp only [T.size];omega,c3⟩
theorem qsz:∀{p:List (Nat×Nat×T)} {y:List Nd},y∈(zaq p).1→∃x∈p,x.2.2.hd.1=7∧y=x.2.2.kid (1-x.2.1)
 |[],y,h=>by cases h
 |x::p,y,h=>by
  have up:(∃z∈p,z.2.2.hd.1=7∧y=z.2.2.kid (1-z.2.1))→∃z∈x::p,z.2.2.hd.1=7∧y=z.2.2.kid (1-z.2.1):=fun ⟨z,hz,h⟩=>⟨z,List.mem_cons_of_mem _ hz,h⟩
  rw [zaq] at h;split at h
  ·exact up (qsz h)
  ·split at h
   ·rename_i h7;rcases List.mem_append.1 h with h|h
    ·exact up (qsz h)
    ·exact ⟨x,List.mem_cons_self ..,h7,List.mem_singleton.1 h⟩
   ·exact up (qsz h)
namespace Tm
def bang:Tm→Bool
 |over s=>decide (s=2)
 |fin s _=>decide (s=2)
 |seq a _=>a.bang
 |going a _=>a.bang
 |stack a _=>a.bang
 |par a b=>a.bang||b.bang
 |_=>false
end Tm
abbrev Stk:=List (Nat×Nat)
def topO:Stk→Int
 |[]=> -1
 |x::_=>(x.1:Int)
def decS:Stk→Stk
 |[]=>[]
 |x::r=>(x.1,x.2-1)::r
def popZ:Stk→Stk
 |[]=>[]
 |x::r=>if x.2=0 then popZ r else x::r
def zuo (ar k:Nat) (S:Stk):Stk:=if 0<ar then (k,ar)::decS S else popZ (decS S)
def stkS (ars:Nat→Nat):Nat→Stk
 |0=>[]
 |k+1=>zuo (ars k) k (stkS ars k)
def runS (ars:Nat→Nat) (S:Stk) (i:Nat):Nat→Stk
 |0=>S
 |d+1=>runS ars (zuo (ars i) i S) (i+1) d
theorem qnn (ars:Nat→Nat):∀(d e:Nat) (S:Stk) (i:Nat),runS ars S i (d+e)=runS ars (runS ars S i d) (i+d) e
 |0,e,S,i=>by simp [runS]
 |d+1,e,S,i=>by rw [show d+1+e=(d+e)+1 by omega,runS,runS,qnn ars d e,show i+1+d=i+(d+1) by omega]
theorem ydm (ars:Nat→Nat):∀k,runS ars [] 0 k=stkS ars k
 |0=>rfl
 |k+1=>by rw [qnn ars k 1,ydm ars k,Nat.zero_add];rfl
namespace T
def ypx (ars:Nat→Nat):T→Nat→Prop
 |n0 _,i=>ars i=0
 |n1 _ a,i=>ars i=1∧a.ypx ars (i+1)
 |n2 _ a b,i=>ars i=2∧a.ypx ars (i+1)∧b.ypx ars (i+1+a.size)
def par:T→Int→Nat→Nat→Int
 |n0 _,q,_,_=>q
 |n1 _ a,q,i,k=>if k=i then q else a.par i (i+1) k
 |n2 _ a b,q,i,k=>if k=i then q else if k<i+1+a.size then a.par i (i+1) k else b.par i (i+1+a.size) k
theorem zux:∀t:T,0<t.size
 |n0 _=>by simp [size]
 |n1 _ _=>by simp [size]
 |n2 _ _ _=>by simp [size]
theorem qnm (ars:Nat→Nat):∀(t:T) (i:Nat) (S:Stk),t.ypx ars i→runS ars S i t.size=popZ (decS S)∧∀k,i≤k→k<i+t.size→topO (runS ars S i (k-i))=t.par (topO S) i k
 |n0 n,i,S,h=>by
  have h:ars i=0:=h;refine ⟨?_,fun k h1 h2=> ?_⟩
  ·show zuo (ars i) i S=_;simp [zuo,h]
  ·simp only [size] at h2;rw [show k-i=0 by omega];rfl
 |n1 n a,i,S,h=>by
  obtain ⟨h0,ha⟩:=h;obtain ⟨e1,e2⟩:=qnm ars a (i+1) ((i,1)::decS S) ha;have es:zuo (ars i) i S=(i,1)::decS S:=by simp [zuo,h0]
  refine ⟨?_,fun k h1 h2=> ?_⟩
  ·rw [show (n1 n a).size=a.size+1 from rfl,runS,es,e1];rfl
  ·simp only [size] at h2;by_cases hk:k=i
   ·subst hk;rw [Nat.sub_self];show topO S=_;unfold par;rw [if_pos rfl]
   ·rw [show k-i=(k-(i+1))+1 by omega,runS,es,e2 k (by omega) (by omega)];show _=par (n1 n a) (topO S) i k;rw [par,if_neg hk];rfl
 |n2 n a b,i,S,h=>by
  obtain ⟨h0,ha,hb⟩:=h;obtain ⟨e1,e2⟩:=qnm ars a (i+1) ((i,2)::decS S) ha;obtain ⟨e3,e4⟩:=qnm ars b (i+1+a.size) ((i,1)::decS S) hb;have es:zuo (ars i) i S=(i,2)::decS S:=by simp [zuo,h0]
  have e1':runS ars ((i,2)::decS S) (i+1) a.size=(i,1)::decS S:=by rw [e1];rfl
  refine ⟨?_,fun k h1 h2=> ?_⟩
  ·rw [show (n2 n a b).size=(a.size+b.size)+1 from rfl,runS,es,qnn,e1',e3];rfl
  ·simp only [size] at h2;by_cases hk:k=i
   ·subst hk;rw [Nat.sub_self];show topO S=_;unfold par;rw [if_pos rfl]
   ·rw [show k-i=(k-(i+1))+1 by omega,runS,es];show _=par (n2 n a b) (topO S) i k;rw [par,if_neg hk];by_cases hk2:k<i+1+a.size
    ·rw [if_pos hk2,e2 k (by omega) hk2];rfl
    ·rw [if_neg hk2,show k-(i+1)=a.size+(k-(i+1+a.size)) by omega,qnn,e1',e4 k (by omega) (by omega)];rfl
theorem qnp:∀(t:T) (q:Int) (i k:Nat),i≤k→k<i+t.size→(k=i∧t.par q i k=q)∨∃p:Nat,t.par q i k=(p:Int)∧i≤p∧p<k∧(t.path i k).map (·.1)=(t.path i p).map (·.1)++[p]
 |n0 n,q,i,k,h1,h2=>by simp only [size] at h2;exact .inl ⟨by omega,rfl⟩
 |n1 n a,q,i,k,h1,h2=>by
  simp only [size] at h2;by_cases hk:k=i
  ·exact .inl ⟨hk,by rw [par,if_pos hk]⟩
  ·right;rw [par,if_neg hk,zpb,if_neg hk];rcases qnp a (i:Int) (i+1) k (by omega) (by omega) with ⟨e1,e2⟩|⟨p,e1,e2,e3,e4⟩
   ·refine ⟨i,e2,Nat.le_refl _,by omega,?_⟩;subst e1;have:a.path (i+1) (i+1)=[]:=by cases a<;>simp [path]
    rw [this,zpb,if_pos rfl];rfl
   ·refine ⟨p,e1,by omega,e3,?_⟩;rw [zpb,if_neg (by omega),List.map_cons,List.map_cons,e4];rfl
 |n2 n a b,q,i,k,h1,h2=>by
  simp only [size] at h2;by_cases hk:k=i
  ·exact .inl ⟨hk,by rw [par,if_pos hk]⟩
  ·right;rw [par,if_neg hk,zgm,if_neg hk];by_cases hk2:k<i+1+a.size
   ·rw [if_pos hk2,if_pos hk2];rcases qnp a (i:Int) (i+1) k (by omega) hk2 with ⟨e1,e2⟩|⟨p,e1,e2,e3,e4⟩
    ·refine ⟨i,e2,Nat.le_refl _,by omega,?_⟩;subst e1;have:a.path (i+1) (i+1)=[]:=by cases a<;>simp [path]
     rw [this,zgm,if_pos rfl];rfl
    ·refine ⟨p,e1,by omega,e3,?_⟩;rw [zgm,if_neg (by omega),if_pos (by omega),List.map_cons,List.map_cons,e4];rfl
   ·rw [if_neg hk2,if_neg hk2];rcases qnp b (i:Int) (i+1+a.size) k (by omega) (by omega) with ⟨e1,e2⟩|⟨p,e1,e2,e3,e4⟩
    ·refine ⟨i,e2,Nat.le_refl _,by omega,?_⟩;subst e1;have:b.path (i+1+a.size) (i+1+a.size)=[]:=by cases b<;>simp [path]
     rw [this,zgm,if_pos rfl];rfl
    ·refine ⟨p,e1,by omega,e3,?_⟩;rw [zgm,if_neg (by omega),if_neg (by omega),List.map_cons,List.map_cons,e4];rfl
theorem xgt (t:T):∀i,i<t.size→(t.par (-1) 0 i= -1∧t.ovr i=[])∨(0≤t.par (-1) 0 i∧t.par (-1) 0 i<i∧t.ovr i=t.ovr (t.par (-1) 0 i).toNat++[(t.par (-1) 0 i).toNat]):=fun i hi=>by
 rcases qnp t (-1) 0 i (Nat.zero_le _) (by omega) with ⟨e1,e2⟩|⟨p,e1,e2,e3,e4⟩
 ·left;refine ⟨e2,?_⟩;subst e1;unfold ovr;cases t<;>simp [path]
 ·right;rw [e1];refine ⟨by omega,by omega,?_⟩;rw [Int.toNat_natCast];exact e4
theorem xfl (ars:Nat→Nat) (t:T) (h:t.ypx ars 0) (k:Nat) (hk:k<t.size):topO (stkS ars k)=t.par (-1) 0 k:=by have:=(qnm ars t 0 [] h).2 k (Nat.zero_le _) (by omega);rw [Nat.sub_zero,ydm] at this;exact this
end T
theorem ycu (ars:Nat→Nat):∀k,(∀j,j<k→ars j≤2)→(∀x∈stkS ars k,x.1<k∧x.2≤2)∧(stkS ars k).length≤k∧∀x r,stkS ars k=x::r→0<x.2
 |0,_=>⟨fun x hx=>(by cases hx),Nat.le_refl _,fun x r h=>by cases h⟩
 |k+1,h=>by
  obtain ⟨h1,h2,h3⟩:=ycu ars k fun j hj=>h j (by omega)
  have d1:∀x∈decS (stkS ars k),x.1<k+1∧x.2≤2:=fun x hx=>by
   revert hx h1;cases stkS ars k with
   |nil=>intro _ hx;cases hx
   |cons y r=>
    intro h1 hx;rcases List.mem_cons.1 hx with rfl|hx
    ·have:=h1 y (List.mem_cons_self ..);exact ⟨by show y.1<_;omega,by show y.2-1≤_;omega⟩
    ·have:=h1 x (List.mem_cons_of_mem _ hx);exact ⟨by omega,this.2⟩
  have d2:(decS (stkS ars k)).length≤k:=by revert h2;cases stkS ars k<;>exact id
  have p1:∀(S:Stk),(∀x∈popZ S,x∈S)∧(popZ S).length≤S.length∧∀x r,popZ S=x::r→0<x.2:=by
   intro S
   induction S with
   |nil=>exact ⟨fun x hx=>hx,Nat.le_refl _,fun x r h=>by cases h⟩
   |cons y r ih=>
    obtain ⟨i1,i2,i3⟩:=ih;unfold popZ;split
    ·exact ⟨fun x hx=>List.mem_cons_of_mem _ (i1 x hx),by simp;omega,i3⟩
    ·exact ⟨fun x hx=>hx,Nat.le_refl _,fun x r' h=>by cases h;omega⟩
  show (∀x∈zuo (ars k) k (stkS ars k),_)∧_∧_;have hk:=h k (by omega);show (∀x∈zuo (ars k) k (stkS ars k),x.1<k+1∧x.2≤2)∧(zuo (ars k) k (stkS ars k)).length≤k+1∧∀x r,zuo (ars k) k (stkS ars k)=x::r→0<x.2;unfold zuo;split
  ·rename_i ha;refine ⟨fun x hx=> ?_,by simp;omega,fun x r h=>by cases h;exact ha⟩;rcases List.mem_cons.1 hx with rfl|hx
   ·exact ⟨by show k<k+1;omega,hk⟩
   ·exact d1 x hx
  ·obtain ⟨q1,q2,q3⟩:=p1 (decS (stkS ars k));exact ⟨fun x hx=>d1 x (q1 x hx),by omega,q3⟩
noncomputable def zvr (l:List Nd) (k:Int):Option (List Int):=match tree l with
 |some t=>if l.length≤1000000∧0≤k∧k<l.length then some ((t.ovr k.toNat).map fun (i:Nat)=>(i:Int)) else none
 |none=>none
theorem T.zqb:∀(t:T) (i k:Nat),(t.path i k).length≤t.size
 | .n0 n,i,k=>Nat.zero_le _
 | .n1 n a,i,k=>by
   rw [T.zpb];have:=T.zqb a (i+1) k;split
   ·simp
   ·simp only [List.length_cons,T.size];omega
 | .n2 n a b,i,k=>by
   rw [T.zgm];have h1:=T.zqb a (i+1) k;have h2:=T.zqb b (i+1+a.size) k;split
   ·simp
   ·split
    ·simp only [List.length_cons,T.size];omega
    ·simp only [List.length_cons,T.size];omega
theorem qyc {α:Type} {l:List α} {i:Nat} {x:α} {r:List α} (h:l.drop i=x::r):(l.take (i+1)).drop i=[x]:=by rw [List.drop_take,h,show i+1-i=1 by omega];rfl
def T.bang:T→Bool
 |n0 n=>if n.1=11 then decide (n.2.2=2) else false
 |n1 n a=>if n.1=14 then decide (n.2.2=2) else false
 |n2 n a b=>if n.1=5∨n.1=12∨n.1=13 then a.bang else if n.1=7 then a.bang||b.bang else false
namespace Tm
end Tm
end Go.Rd
namespace Go.Proofs.YtjolkdjkhekbnaaGreatDoor.Sv
open Go Go.Sv Go.Proofs Go.Rd Go.RowKit Go.Shelf
set_option maxRecDepth 100000
attribute [local go_sem] Oper.semAt_some
theorem go_wf [Dfr] {n:Int} (h: -9223372036854775808≤n∧n≤9223372036854775807):(Lit.int .i64 n).wf=true:=by simp [Lit.wf,IntKind.min,IntKind.max,IntKind.signed,IntKind.bits];omega
theorem yho [Dfr] (n:Nat) (s:Option Addr) (len cap:Nat) (w:World):CallsIn Fence.wide n Tryz.prog 168 #[.slice s len cap] w fun e w'=>
 e= .returned (.func (.func 223) #[] #[.pointer (some ⟨w.heap.size,0,none⟩)])∧w'=w.alloc (.cells #[.slice s len cap] 22):=by
 refine callsIn_of_wp Tryz.func168 rfl trivial ?_ rfl;simp only [Tryz.ntmps168,List.size_toArray,List.length_cons,List.length_nil,Nat.reduceAdd,Nat.reduceSub,Array.replicate_succ,Array.replicate_zero,List.push_toArray,List.append_toArray,List.nil_append,List.cons_append];gi_wp2;go_ret;exact ⟨rfl,rfl⟩
abbrev Spot:=Int×Int×Nat×Nat
def yrn (x:Spot):Array Value:= #[.int .i64 x.1,.agg #[.complex .f64 x.2.2.1 x.2.2.2,.int .i64 x.2.1]]
def qpa (x:Spot):Int×Int:=(x.1,x.2.1)
def dat (pre:List Spot):DataW Unit:=pre.foldl (fun D x=>D.put (.int .i64 x.1) (.lit (.int .i64 x.2.1))) (.map [])
theorem ymx [Dfr] (pre:List Spot) (x:Spot):dat (pre++[x])=(dat pre).put (.int .i64 x.1) (.lit (.int .i64 x.2.1)):=by simp [dat]
def ysOf (n:Nat) (p:Nat→Int):List (Int×Int):=(List.range n).map fun (i:Nat)=>((i:Int),p i)
theorem qfu [Dfr] (n:Nat) (p:Nat→Int):ysOf (n+1) p=ysOf n p++[((n:Int),p n)]:=by simp [ysOf,List.range_succ]
theorem yyf [Dfr] (n:Nat) (p:Nat→Int):(ysOf n p).length=n:=by simp [ysOf]
theorem yfw [Dfr] (xs:List Spot):Maps.IsMap (dat xs):=by
 have h:∀(l:List Spot) (D:DataW Unit),Maps.IsMap D→Maps.IsMap (l.foldl (fun D x=>D.put (.int .i64 x.1) (.lit (.int .i64 x.2.1))) D):=by
  intro l
  induction l with
  |nil=>exact fun D h=>h
  |cons x l ih=>exact fun D h=>ih _ (h.put _ _)
 exact h xs _ Maps.isMap_empty
theorem yvx [Dfr] (p:Nat→Int):∀(n:Nat) (xs:List Spot),xs.map qpa=ysOf n p→∀i,i<n→Maps.has (dat xs) (.int .i64 (i:Int))=true∧∀z,(dat xs).atKey (.int .i64 (i:Int)) z= .lit (.int .i64 (p i))
 |0,xs,h,i,hi=>absurd hi (by omega)
 |n+1,xs,h,i,hi=>by
  rw [qfu] at h;obtain ⟨l1,l2,rfl,h1,h2⟩:=List.map_eq_append_iff.1 h;obtain ⟨x,rfl,hx⟩:=List.map_eq_singleton_iff.1 h2;have e1:x.1=(n:Int):=congrArg Prod.fst hx;have e2:x.2.1=p n:=congrArg Prod.snd hx;rw [ymx,e1,e2];by_cases hin:i=n
  ·subst hin;have hk:WideAt.IsKeyLit (.int .i64 (i:Int)):=trivial;exact ⟨Maps.has_put_same (yfw l1) hk _,fun z=>Maps.atKey_put_same (yfw l1) hk _ _⟩
  ·have hne:Lit.int .i64 (i:Int)≠.int .i64 (n:Int):=fun e=>hin (by injection e with _ e;omega)
   rw [Maps.has_put_other hne];refine ⟨(yvx p n l1 h1 i (by omega)).1,fun z=> ?_⟩;rw [Maps.atKey_put_other hne];exact (yvx p n l1 h1 i (by omega)).2 z
def xfb (w:World) (ys:List (Int×Int)) (s:Option Addr) (len cap:Nat):Prop:=
 ∀(l bl:Nat) (M:Nat→Prop) (J:List Spot→World→Prop) (W:World),Kept (fun b=>w.heap.size≤b) w W→(∀b,M b→w.heap.size≤b∧b<W.heap.size)→w.heap.size≤l→l<W.heap.size→W.heap[bl]? =some (.cells #[.slice s len cap] 22 (0,0))→¬M bl→bl≠l→
  (∀pre A B,J pre A→Kept (fun k=>W.heap.size≤k) A B→J pre B)→
  (∀pre x W1,J pre W1→(pre++[x]).map qpa <+: ys→W.heap.size≤W1.heap.size→YieldAt Fence.wide 3 Tryz.prog l (yrn x) W1 fun e W'=>e= .returned (.bool true)∧J (pre++[x]) W'∧Kept (fun k=>M k∨k=l) W1 W')→
  J [] W→CallsIn Fence.wide 3 Tryz.prog 223 (#[.func (.yield l) #[] #[]]++ #[.pointer (some ⟨bl,0,none⟩)]) W fun e W'=>(∃v,e= .returned v)∧∃xs,xs.map qpa=ys∧J xs W'
theorem qly [Dfr] {w w':World} {P:Program} {k:TypeId} {R:Value→Option (DataW Unit×List MemPlace)} {b n:Nat} {D:DataW Unit} {G:Nat→Prop} (h:w.ownsMap P k R b n D) (hk:Kept G w w') (hG:¬G b):w'.ownsMap P k R b n D:=by obtain ⟨es,ck,hh,hrest⟩:=h;exact ⟨es,ck,(hk.block _ (Array.getElem?_eq_some_iff.1 hh).1 hG).trans hh,hrest⟩
theorem ytr [Dfr] (n:Nat) (p:Nat→Int) (ov:Nat→List Nat) (hp:∀i,i<n→(p i= -1∧ov i=[])∨(0≤p i∧p i<i∧ov i=ov (p i).toNat++[(p i).toNat])) (hn:n≤1000000) (s:Option Addr) (len cap:Nat) (w:World) (hiter:xfb w (ysOf n p) s len cap) (k:Nat) (hk:k<n):
 CallsIn Fence.wide 4 Tryz.prog 103 #[.slice s len cap,.int .i64 (k:Int)] w fun e w'=>∃v m,e= .returned v∧w'.ownsRow w.heap.size 3 1 v m ((ov k).map fun (i:Nat)=>Value.int .i64 (i:Int))∧Kept (fun _=>False) w w':=by
 have hys:∀y∈ysOf n p,(Lit.int .i64 y.1).wf=true∧(Lit.int .i64 y.2).wf=true:=fun y hy=>by obtain ⟨i,hi,rfl⟩:=List.mem_map.1 hy;have hi:=List.mem_range.1 hi;refine ⟨go_wf ⟨?_,?_⟩,go_wf ⟨?_,?_⟩⟩<;>rcases hp i hi with ⟨h,_⟩|⟨h1,h2,_⟩<;>simp only<;>omega
 have hyl:(ysOf n p).length≤1000000:=by rw [yyf];exact hn
 have hmm:= @run_makeMap Tryz.prog;refine callsIn_of_wp_marks Tryz.func103 rfl trivial ?_ rfl;simp only [Tryz.ntmps103,List.size_toArray,List.length_cons,List.length_nil,Nat.reduceAdd,Nat.reduceSub,Array.replicate_succ,Array.replicate_zero,List.push_toArray,List.append_toArray,List.nil_append,List.cons_append];gi_wp2_with fail;refine ⟨trivial,(yho _ _ _ _ _).mono ?_⟩;rintro e w' ⟨rfl,rfl⟩;gi_wp2_with fail;have hm0:=World.ownsMap_made w Tryz.prog 3 (plainElem (H:=Unit) Tryz.prog 3);have bS:=(Boxed.new (w.alloc (.map #[] 0)) 173 (.map (some w.heap.size))).alloc (.cells #[.slice s len cap] 22);have bN:=Boxed.new ((w.alloc (.map #[] 0)).alloc (.cells #[.map (some w.heap.size)] 173)) 22 (.slice s len cap);simp only [World.size_alloc] at bS bN;obtain ⟨W0,hW0⟩:∃W0,(((w.alloc (.map #[] 0)).alloc (.cells #[.map (some w.heap.size)] 173)).alloc (.cells #[.slice s len cap] 22))=W0:=⟨_,rfl⟩
 have hs0:W0.heap.size=w.heap.size+3:=by rw [←hW0];simp
 have hm1:W0.ownsMap Tryz.prog 3 (plainElem (H:=Unit) Tryz.prog 3) w.heap.size 0 (.map []):=by rw [←hW0];exact (hm0.alloc _).alloc _
 rw [hW0] at bS bN ⊢;refine ytb (n:=3) (encs:=yrn) (Ok:=fun pre=>pre.map qpa <+: ysOf n p) (Fin:=fun xs=>xs.map qpa=ysOf n p) (M:=fun b=>b=w.heap.size) rfl (enters_of Tryz.func223 (by kernel_rfl) rfl) (fun _=>rfl) (fun b hb=>by omega)
  (fun pre W=>Boxed W (w.heap.size+1) 173 (.map (some w.heap.size))∧W.ownsMap Tryz.prog 3 (plainElem (H:=Unit) Tryz.prog 3) w.heap.size pre.length (dat pre)) ?hI ⟨bS,hm1⟩ ?iter ?round ?done
 case hI=>rintro pre W W' ⟨h1,h2⟩ hk;refine ⟨(hk.block _ h1.lt (by omega)).trans h1,?_⟩;obtain ⟨es,ck,hh,hrest⟩:=h2;exact ⟨es,ck,(hk.block _ (Array.getElem?_eq_some_iff.1 hh).1 (by omega)).trans hh,hrest⟩
 case iter=>
  intro l J W hk hl hlW hJ hy h0;have hkw:Kept (fun b=>w.heap.size≤b) w W0:=by rw [←hW0];exact (((Kept.refl _ w).alloc _).alloc _).alloc _
  have hsz:=hk.size;refine hiter l (w.heap.size+1+1) _ J W (hkw.trans hk fun x h=>h.elim) (fun b hb=>by subst hb;omega) (by omega) hlW ((hk.block _ (by omega) fun h=>h).trans bN) (by omega) (by omega) hJ hy h0
 case round=>
  rintro l pre ⟨x1,x2,x3,x4⟩ W hl hlW ⟨h1,h2⟩ hok;simp only [yrn];have hsc:=fun (a:Addr) (re im:Nat) (w:World)=>run_store Tryz.prog w a (.complex .f64 re im) .plain rfl
  have hcell:=h1.cell;gi_wp2_with fail;refine ⟨kept_alloc ..,fun W2 hk2=> ?_⟩;have hb2:W2.heap[W.heap.size]? =some (.cells #[.complex .f64 x3 x4,.int .i64 x2] 178 (0,0)):=(hk2.block _ (by simp) (by omega)).trans (World.alloc_heap_new W _);have hc2:W2.cell? ⟨W.heap.size,1,none⟩=some (.int .i64 x2):=by simp [World.cell?,hb2]
  have h1b:Boxed W2 (w.heap.size+1) 173 (.map (some w.heap.size)):=(hk2.block _ (by have:=(Boxed.lt h1);simp;omega) (by omega)).trans ((zbh W _ _ h1.lt).trans h1);have hcell2:=h1b.cell;have hown:W2.ownsMap Tryz.prog 3 (plainElem (H:=Unit) Tryz.prog 3) w.heap.size pre.length (dat pre):=by obtain ⟨es,ck,hh,hrest⟩:=h2;have hlt:=(Array.getElem?_eq_some_iff.1 hh).1;exact ⟨es,ck,(hk2.block _ (by simp;omega) (by omega)).trans ((zbh W _ _ hlt).trans hh),hrest⟩
  have hmem:qpa (x1,x2,x3,x4)∈ysOf n p:=hok.subset (by simp);obtain ⟨wf1,wf2⟩:=hys _ hmem;have hplen:pre.length≤1000000:=by have:=hok.length_le;simp at this;omega
  have hkey:=Maps.keyOf_int_mk Tryz.underlying3 wf1;clear hcell hsc;gi_wp2_with (gi_at_mapUpdate;refine qux _ rfl _ _ _ 173 rfl 3 3 (Maps.int_keyed Tryz.underlying3) Tryz.underlying173 _ w.heap.size pre.length _ rfl hown (by unfold maxLen;omega) _ _ _ rfl rfl hkey _ [] (plainElem_int Tryz.underlying3 wf2) ?_;intro w1 hown1 hgrow1);refine And.intro ((hgrow1.block _ (Boxed.lt h1b) (by omega)).trans h1b) ?_;rw [ymx];exact hown1
 case done=>
  rintro D xs W hD hfin ⟨h1,h2⟩ hK hkept;have hcell:=h1.cell;have hat:=yvx p n xs hfin;have hwf:∀i,i<n→(Lit.int .i64 ((i:Nat):Int)).wf=true:=fun i hi=>go_wf ⟨by omega,by omega⟩
  have hkey:=Maps.keyOf_int_mk Tryz.underlying3 (hwf k hk);gi_wp2_with (first
   |(gi_at_lookup;refine wpListIn_lookup_own_ok_int W rfl _ _ 173 rfl 3 3 .i64 (Maps.int_keyed Tryz.underlying3) Tryz.underlying173 Tryz.underlying3 (Tryz.zeroValue3 _) w.heap.size xs.length (dat xs) rfl h2 (.int .i64 k) _ rfl hkey ?_;intro c hc hwc;rw [(hat k hk).1];rw [(hat k hk).2] at hc;cases hc)
   |(gi_at_lookup;refine wpListIn_lookup_own_int W rfl _ _ 173 rfl 3 3 .i64 (Maps.int_keyed Tryz.underlying3) Tryz.underlying173 Tryz.underlying3 (Tryz.zeroValue3 _) w.heap.size xs.length (dat xs) rfl h2 (.int .i64 k) _ rfl hkey ?_;intro c hc hwc;rw [(hat k hk).2] at hc;cases hc))
  obtain ⟨i0,hi0,hiz,his,hib⟩:=info_parts (P:=Tryz.prog) (e:=3) (z:=.int .i64 0) (size:=1) (bytes:=8) (by kernel_rfl);gi_loopw [1,8] (fun v1 v8 W'=>∃(c:Int) (acc:List Nat),v1= .int .i64 c∧-1≤c∧c<n∧(acc.length:Int)+(c+1)≤k∧(if c<0 then [] else ov c.toNat++[c.toNat])++acc=ov k∧
   W'.ownsRow w.heap.size 3 1 v8 acc.length (acc.map fun (i:Nat)=>Value.int .i64 (i:Int))∧Boxed W' (w.heap.size+1) 173 (.map (some w.heap.size))∧W'.ownsMap Tryz.prog 3 (plainElem (H:=Unit) Tryz.prog 3) w.heap.size xs.length (dat xs)∧
   W'.heap[D]? =some (.deferred (some []))∧Kept (fun b=>b=w.heap.size) W0 W') (fun v1 _ _=>(intOf v1+1).toNat)
  case atStart=>
   refine ⟨p k,[],rfl,?_,?_,?_,?_,⟨rfl,.inl ⟨rfl,rfl⟩⟩,h1,h2,hK,hkept⟩
   ·rcases hp k hk with ⟨h,_⟩|⟨h1,h2,_⟩<;>omega
   ·rcases hp k hk with ⟨h,_⟩|⟨h1,h2,_⟩<;>omega
   ·rcases hp k hk with ⟨h,_⟩|⟨h1,h2,_⟩<;>simp<;>omega
   ·rcases hp k hk with ⟨h,h0⟩|⟨h1,h2,h0⟩
    ·rw [h,h0];rfl
    ·rw [if_neg (by omega),h0];simp
  case round=>
   obtain ⟨c,acc,rfl,hc1,hc2,hc3,hacc,hrow,hb,hmap,hdef,hkp⟩:=hrel;have hcell3:=hb.cell;have hq1:w.heap.size≤wr.heap.size:=by have:=hkp.size;omega
   have hq2:0<(#[Value.int .i64 c]:Array Value).size:=by simp
   have hq3:0≤c→1+acc.length≤maxLen:=fun _=>by unfold maxLen;omega
   have hq4:0≤c→(1+acc.length)*8≤140737488355328:=fun _=>by omega
   have hq5:w.heap.size≤(wr.alloc (.cells #[.int .i64 c] 3)).heap.size:=by rw [World.size_alloc];omega
   have hq6:∀u∈acc.map (fun (i:Nat)=>Value.int .i64 (i:Int)),u.oneCell'=true:=fun u hu=>by obtain ⟨i,_,rfl⟩:=List.mem_map.1 hu;rfl
   gi_wp2_with (first
    |(gi_at_builtin;go_loud (have hcn:0≤c:=(by assumption);refine ykx _ rfl _ _ 23 rfl w.heap.size 3 i0 _ 1 8 Tryz.underlying23 hi0 hiz his hib rfl Nat.one_pos _ 1 [.int .i64 c] rfl (ownsRow_lit (cs:= #[.int .i64 c]) hq1 hq2) Nat.one_pos u8 acc.length _ rfl (hrow.alloc _) hq6 (hq3 hcn) (hq4 hcn) hq5 ?_;intro v' w1 hrow1 hk1;have hb1:Boxed w1 (w.heap.size+1) 173 (.map (some w.heap.size)):=(hk1.block _ (by have:=Boxed.lt hb;rw [World.size_alloc];omega) (fun h=>by have:=Boxed.lt hb;have:wr.heap.size=_:=Option.some.inj h;omega)).trans ((zbh wr _ _ (Boxed.lt hb)).trans hb);have hcell1:=hb1.cell;have hmap1:w1.ownsMap Tryz.prog 3 (plainElem (H:=Unit) Tryz.prog 3) w.heap.size xs.length (dat xs):=qly (qly hmap (kept_alloc wr _) fun h=>h) hk1 (fun h=>by have:=Boxed.lt hb;have:wr.heap.size=_:=Option.some.inj h;omega);have hdef1:w1.heap[D]? =some (.deferred (some [])):=(hk1.block _ (by have:=(Array.getElem?_eq_some_iff.1 hdef).1;rw [World.size_alloc];omega) (fun h=>by have:=(Array.getElem?_eq_some_iff.1 hdef).1;have:wr.heap.size=_:=Option.some.inj h;omega)).trans ((zbh wr _ _ (Array.getElem?_eq_some_iff.1 hdef).1).trans hdef);have hkp1:Kept (fun b=>b=w.heap.size) W0 w1:=(hkp.trans (kept_alloc wr _) fun x h=>h.elim).trans hk1 fun x h=>.inr (by have:=hkp.size;have:wr.heap.size=_:=Option.some.inj h;omega)))
    |(gi_at_lookup
      have hcn:0≤c:=by assumption
      obtain ⟨i,rfl⟩:=Int.eq_ofNat_of_zero_le hcn;have hin:i<n:=by omega
      refine wpListIn_lookup_own_int w1 rfl _ _ 173 rfl 3 3 .i64 (Maps.int_keyed Tryz.underlying3) Tryz.underlying173 Tryz.underlying3 (Tryz.zeroValue3 _) w.heap.size xs.length (dat xs) rfl hmap1 (.int .i64 i) _ rfl (Maps.keyOf_int_mk Tryz.underlying3 (hwf i hin)) ?_;intro c' hc' hwc';rw [(hat i hin).2] at hc';cases hc'))
   ·have e0:ov (i:Int).toNat=ov i:=by rw [Int.toNat_natCast]
    rw [if_neg (by omega),e0,Int.toNat_natCast] at hacc;refine ⟨⟨p i,i::acc,rfl,?_,?_,?_,?_,?_,hb1,hmap1,hdef1,hkp1⟩,?_⟩
    ·rcases hp i hin with ⟨h,_⟩|⟨h1,h2,_⟩<;>omega
    ·rcases hp i hin with ⟨h,_⟩|⟨h1,h2,_⟩<;>omega
    ·rw [List.length_cons];rcases hp i hin with ⟨h,_⟩|⟨h1,h2,_⟩<;>omega
    ·rcases hp i hin with ⟨h,h0⟩|⟨h1,h2,h0⟩
     ·rw [h,←hacc,h0];rfl
     ·rw [if_neg (by omega),←hacc,h0];simp
    ·rw [List.length_cons,Nat.add_comm];exact hrow1
    ·show (p i+1).toNat<((i:Int)+1).toNat;rcases hp i hin with ⟨h,_⟩|⟨h1,h2,_⟩<;>omega
   ·have hlt:c<0:=by assumption
    rw [if_pos hlt,List.nil_append] at hacc;refine ⟨by simp,.inl ⟨_,_,rfl,run_takeDeferred hdef,?_⟩⟩;have hkw:Kept (fun _=>False) w W0:=by rw [←hW0];exact (((Kept.refl _ w).alloc _).alloc _).alloc _
    have hDw:w.heap.size≤D:=by omega
    have hkD:Kept (fun b=>b=D) wr (wr.putObj D (.deferred none)):=zlb;refine ⟨u8,by first|kernel_rfl|simp [results,Tryz.f103,go_sem],u8,acc.length,rfl,?_,?_⟩
    ·rw [←hacc];refine zgs hrow hkD fun g hg hgD=> ?_
     subst hgD;obtain ⟨_,h2⟩:=hrow;rcases h2 with ⟨h0,_⟩|⟨g',cap',cur,hv,_,hh,_⟩
     ·rw [h0] at hg;cases hg
     ·rw [hv] at hg;have:g'=g:=Option.some.inj hg;rw [this,hdef] at hh;cases hh
    ·exact (hkw.trans hkp fun x h=>.inr (by omega)).trans hkD fun x h=>.inr (by omega)
attribute [local go_sem] Oper.semAt_some
abbrev NdT:Ty:=.pair (.int .i64) (.pair .str (.int .i64))
def xkd [Dfr] (w:World) (l:List Nd) (s:Option Addr) (len cap:Nat):Prop:=
 ∀W,Kept (fun b=>w.heap.size≤b) w W→zdp E (fun _=>False) W∧Cl (fun _=>False) W (.slice 68 NdT) l [.slice s len cap]
theorem step0 [Dfr] (W:World):Step (fun _=>False) (Fr.F ⟨fun _=>none,fun _=>none⟩ (fun _=>False)) W W:=
 ⟨fun _ _ _=>rfl,fun b h=>by
  rcases h with h|⟨d,h⟩|⟨n,l,h⟩
  ·exact h.elim
  ·cases h
  ·cases h⟩
theorem yty [Dfr] [zdv] {n:Nat} {l:List Nd} {b:Bool} (h:qhr l=some b) {W:World} {s:Option Addr} {len cap:Nat} (hg:zdp E (fun _=>False) W) (hc:Cl (fun _=>False) W (.slice 68 NdT) l [.slice s len cap]):
 CallsIn Fence.wide n Tryz.prog 224 #[.slice s len cap] W fun e w'=>e= .returned (.bool b)∧Kept (fun _=>False) W w':=by
 obtain ⟨k,hk⟩:=((yez l).iff _).1 h;obtain ⟨hf,hct⟩:=zog yge k 224 l b hk;rw [callsIn_wide];have hst:=step0 W;refine (hct W (fun _=>False) (fun _=>False) ⟨fun _=>none,fun _=>none⟩ [.slice s len cap] ⟨.cons (Cl.step hst hc) .nil,fun _=>rfl,fun n b l h=>(by cases h),fun n n' b l l' h=>(by cases h),fun b h=>h.elim,hg.step hst⟩).mono ?_;rintro e w' ⟨v,rfl,hk,hr⟩;obtain ⟨T,hT⟩:=hr 0;have hv:v= .bool b:=hT.rel;exact ⟨by rw [hv],hk⟩
theorem qtc [Dfr] [zdv] {n:Nat} {k r:Int} (h:zlz k=some r) {W:World} (hg:zdp E (fun _=>False) W):
 CallsIn Fence.wide n Tryz.prog 177 #[.int .i64 k] W fun e w'=>e= .returned (.int .i64 r)∧Kept (fun _=>False) W w':=by
 obtain ⟨q,hq⟩:=((qzh k).iff _).1 h;obtain ⟨hf,hct⟩:=zog yge q 177 k r hq;rw [callsIn_wide];have hst:=step0 W;refine (hct W (fun _=>False) (fun _=>False) ⟨fun _=>none,fun _=>none⟩ [.int .i64 k] ⟨.cons rfl .nil,fun _=>rfl,fun n b l h=>(by cases h),fun n n' b l l' h=>(by cases h),fun b h=>h.elim,hg.step hst⟩).mono ?_;rintro e w' ⟨v,rfl,hk,hr⟩;obtain ⟨T,hT⟩:=hr 0;have hv:v= .int .i64 r:=hT.rel;exact ⟨by rw [hv],hk⟩
def zpe (S:Stk):List Value:=S.reverse.flatMap fun x=>[.int .i64 (x.1:Int),.int .i64 (x.2:Int)]
theorem zot [Dfr]:∀S:Stk,(zpe S).length=S.length*2
 |[]=>rfl
 |x::r=>by
  have:zpe (x::r)=zpe r++[.int .i64 (x.1:Int),.int .i64 (x.2:Int)]:=by simp [zpe]
  rw [this,List.length_append,zot r];simp only [List.length_cons,List.length_nil];omega
theorem yli [Dfr] {w:World} {base:Nat} {e:TypeId} {g cap:Nat} {z:Nat×Nat} {r:Stk} (h:w.ownsRow base e 2 (.slice (some ⟨g,0,none⟩) (r.length+1) cap) (r.length+1) (zpe (z::r))):
 w.cell? {block:=g,off:=r.length*2+1}=some (.int .i64 (z.2:Int)):=by
 have e:zpe (z::r)=zpe r++[.int .i64 (z.1:Int),.int .i64 (z.2:Int)]:=by simp [zpe]
 have:=zqc h (r.length*2+1) (.int .i64 (z.2:Int)) (by rw [e,List.getElem?_append_right (by rw [zot];omega),zot];simp);have ea:(⟨g,0,none⟩:Addr).add (r.length*2+1)={block:=g,off:=r.length*2+1}:=by unfold Addr.add;rw [if_neg (by omega),Nat.zero_add]
 rwa [ea] at this
theorem xfz [Dfr] {w:World} {base:Nat} {e:TypeId} {size g cap n:Nat} {xs ys:List Value} (hl:xs.length=n*size) (h:w.ownsRow base e size (.slice (some ⟨g,0,none⟩) (n+1) cap) (n+1) (xs++ys)):
 w.ownsRow base e size (.slice (some ⟨g,0,none⟩) n cap) n xs:=by
 rcases h.2 with ⟨h0,_⟩|⟨g',cap',cur,hv,hb,hh,hc,hm,hs,ht⟩
 ·cases h0
 ·cases hv;refine ⟨hl,.inr ⟨g,cap,cur,rfl,hb,hh,by omega,hm,hs,?_⟩⟩;have h1:=congrArg (List.take (n*size)) ht;rw [List.take_take,Nat.min_eq_left (Nat.mul_le_mul_right _ (Nat.le_succ n)),←hl,List.take_left] at h1;rw [←hl];exact h1
theorem xfy [Dfr] {w:World} {base:Nat} {e:TypeId} {g cap:Nat} {z:Nat×Nat} {r:Stk} (h:w.ownsRow base e 2 (.slice (some ⟨g,0,none⟩) (r.length+1) cap) (r.length+1) (zpe (z::r))) (m:Nat):
 (w.setCell {block:=g,off:=r.length*2+1} (.int .i64 (m:Int))).ownsRow base e 2 (.slice (some ⟨g,0,none⟩) (r.length+1) cap) (r.length+1) (zpe ((z.1,m)::r)):=by
 have e1:∀x:Nat×Nat,zpe (x::r)=zpe r++[.int .i64 (x.1:Int),.int .i64 (x.2:Int)]:=fun x=>by simp [zpe]
 rcases h.2 with ⟨h0,_⟩|⟨g',cap',cur,hv,hb,hh,hc,hm,hs,ht⟩
 ·cases h0
 ·cases hv;refine ⟨by rw [zot];rfl,.inr ⟨g,cap,cur.setIfInBounds (r.length*2+1) (.int .i64 (m:Int)),rfl,hb,?_,hc,hm,by simp [hs],?_⟩⟩
  ·unfold World.setCell;simp only [Array.getElem?_modify,if_true,hh];simp
  ·have h2:=zot r;rw [Array.toList_setIfInBounds,List.take_set,ht,e1,e1,List.set_append_right _ _ (by omega),h2];rw [show r.length*2+1-r.length*2=1 by omega];rfl
theorem yrb [Dfr] {w:World} {base:Nat} {e:TypeId} {g cap:Nat} {z:Nat×Nat} {r:Stk} (h:w.ownsRow base e 2 (.slice (some ⟨g,0,none⟩) (r.length+1) cap) (r.length+1) (zpe (z::r))):
 w.cell? {block:=g,off:=r.length*2}=some (.int .i64 (z.1:Int)):=by
 have e:zpe (z::r)=zpe r++[.int .i64 (z.1:Int),.int .i64 (z.2:Int)]:=by simp [zpe]
 have:=zqc h (r.length*2) (.int .i64 (z.1:Int)) (by rw [e,List.getElem?_append_right (by rw [zot];omega),zot];simp);have ea:(⟨g,0,none⟩:Addr).add (r.length*2)={block:=g,off:=r.length*2}:=by
  unfold Addr.add;split
  ·rename_i h;rw [h]
  ·rw [Nat.zero_add]
 rwa [ea] at this
theorem yzj [Dfr] {w:World} {base:Nat} {e:TypeId} {size g cap n:Nat} {xs:List Value} (h:w.ownsRow base e size (.slice (some ⟨g,0,none⟩) (n+1) cap) (n+1) xs) (j:Nat):w.frozen? {block:=g,off:=j}=false:=by
 rcases h.2 with ⟨h0,_⟩|⟨g',cap',cur,hv,hb,hh,hc,hm,hs,ht⟩
 ·cases h0
 ·cases hv;simp [World.frozen?,hh]
theorem qme [Dfr] {w:World} {b o:Nat} {v:Value}:Kept (fun k=>k=b) w (w.setCell {block:=b,off:=o} v):=
 ⟨rfl,rfl,rfl,by simp [World.setCell],fun k _ hk=>by simp [World.setCell,Array.getElem?_modify,Ne.symm hk],Nat.le_refl _⟩
theorem yos [Dfr] {W:World} {l:List Nd} {s:Option Addr} {len cap:Nat} (h:Cl (fun _=>False) W (.slice 68 NdT) l [.slice s len cap]) {k:Nat} (hk:k<l.length):
 ∃a,s=some a∧W.cell? (a.add (k*3))=some (.int .i64 l[k].1)∧W.cell? {block:=(a.add (k*3)).block,off:=(a.add (k*3)).off+1}=some (.string l[k].2.1)∧W.cell? {block:=(a.add (k*3)).block,off:=(a.add (k*3)).off+2}=some (.int .i64 l[k].2.2):=by
 rw [Cl] at h;obtain ⟨A,c,e,_,h⟩:=h;cases e;rcases h with h|⟨a,rfl,_,h⟩
 ·rw [h] at hk;exact absurd hk (by simp)
 ·obtain ⟨ds,hd,hc⟩:=h k _ (List.getElem?_eq_getElem hk);obtain ⟨c1,c2,rfl,h1,h2⟩:=hd;obtain ⟨c3,c4,rfl,h3,h4⟩:=h2;have h1:c1=[.int .i64 l[k].1]:=h1;have h3:c3=[.string l[k].2.1]:=h3;have h4:c4=[.int .i64 l[k].2.2]:=h4;subst h1 h3 h4;have ea:∀j,0<j→a.add (k*3+j)={block:=(a.add (k*3)).block,off:=(a.add (k*3)).off+j}:=fun j hj=>by
   unfold Addr.add;rw [if_neg (by omega)];split
   ·rename_i h;rw [h];simp
   ·simp [Nat.add_assoc]
  refine ⟨a,rfl,hc 0 _ rfl,?_,?_⟩
  ·rw [←ea 1 (by omega)];exact hc 1 _ rfl
  ·rw [←ea 2 (by omega)];exact hc 2 _ rfl
theorem ysj [Dfr] {w:World} {base:Nat} {e:TypeId} {size:Nat} {v:Value} {n:Nat} {xs:List Value} (h:w.ownsRow base e size v n xs):∃cap ob,v= .slice ob n cap:=by
 obtain ⟨_,h⟩:=h;rcases h with ⟨rfl,rfl⟩|⟨g,cap,cur,rfl,_⟩
 ·exact ⟨_,_,rfl⟩
 ·exact ⟨_,_,rfl⟩
theorem qog [Dfr] {k n:Nat} {p:Nat→Int} {x:Spot} (hk:k<n) (hp:p k=x.2.1) (hx:x.1=(k:Int)):ysOf k p++[x].map qpa <+: ysOf n p:=by
 have e:ysOf k p++[x].map qpa=ysOf (k+1) p:=by rw [qfu];show _++[(x.1,x.2.1)]=_;rw [hx,hp]
 rw [e];unfold ysOf;refine List.IsPrefix.map _ ?_;exact List.prefix_iff_eq_take.2 (by rw [List.length_range,List.take_range,Nat.min_eq_left (by omega)])
theorem xcj [Dfr] {m m':Nat} {P:Program} {l:Nat} {f:FuncId} {tmps:Array Value} {assign body:Code} {w:World} {R:Ending→World→Prop}
 (h:RoundIn Fence.wide m P l f tmps assign body w R):RoundIn Fence.wide m' P l f tmps assign body w R:=⟨h.1,fun c cs _=>h.2 c cs (fun d h=>by cases h)⟩
theorem _root_.Go.World.ownsRow.yku [Dfr] {w:World} {base:Nat} {e:TypeId} {size:Nat} {v:Value} {n:Nat} {xs:List Value} (h:w.ownsRow base e size v n xs) {g:Nat} (hg:v.ownBlock=some g):base≤g:=by
 obtain ⟨_,h2⟩:=h;rcases h2 with ⟨h0,_⟩|⟨g',cap',cur,rfl,hb,_⟩
 ·rw [h0] at hg;cases hg
 ·cases hg;exact hb
theorem _root_.Go.World.ownsRow.xgv [Dfr] {w:World} {base:Nat} {e:TypeId} {size:Nat} {v:Value} {n:Nat} {xs:List Value} (h:w.ownsRow base e size v n xs) {g b:Nat} {cs:Array Value} {t:TypeId} (hg:v.ownBlock=some g) (hb:w.heap[b]? =some (.cells cs t (0,0))) (ht:t≠e):g≠b:=by
 obtain ⟨_,h2⟩:=h;rcases h2 with ⟨h0,_⟩|⟨g',cap',cur,rfl,_,hh,_⟩
 ·rw [h0] at hg;cases hg
 ·cases hg;rintro rfl;rw [hb] at hh;cases hh;exact ht rfl
theorem xca [Dfr] (ars:Nat→Nat) (k:Nat):(decS (stkS ars k)).length≤k:=by
 have:∀S:Stk,(decS S).length=S.length:=fun S=>by cases S<;>rfl
 rw [this];have h:∀k,(stkS ars k).length≤k:=by
  intro k
  induction k with
  |zero=>exact Nat.le_refl _
  |succ k ih=>
   show (zuo _ _ _).length≤_;unfold zuo;split
   ·rw [List.length_cons,this];omega
   ·have hp:∀S:Stk,(popZ S).length≤S.length:=by
     intro S
     induction S with
     |nil=>exact Nat.le_refl _
     |cons y r ih=>
      unfold popZ;split
      ·rw [List.length_cons];omega
      ·exact Nat.le_refl _
    have:=hp (decS (stkS ars k));rw [‹∀S:Stk,(decS S).length=S.length›] at this;omega
 exact h k
theorem qwr [Dfr] (x:Nat×Nat) (r:Stk):zpe (x::r)=zpe r++[.int .i64 (x.1:Int),.int .i64 (x.2:Int)]:=by simp [zpe]
def sliceLen:Value→Nat
 | .slice _ n _=>n
 |_=>0
set_option maxHeartbeats 4000000 in
theorem xin [Dfr] [zdv] {l:List Nd} (ars:Nat→Nat) (s:Option Addr) (len cap:Nat) (w:World) (hrow:xkd w l s len cap) (hone:qhr l=some true) (hl:l.length=len) (hmax:len≤1000000) (har:∀i (h:i<l.length),zlz l[i].1=some (ars i:Int)) (har2:∀i,i<len→ars i≤2):
 xfb w (ysOf len fun k=>topO (stkS ars k)) s len cap:=by
 intro y bl M J W hw hM hyw hyW hbl hMbl hne hJ hy h0;refine callsIn_of_wp Tryz.func223 rfl trivial ?_ rfl;simp only [Tryz.ntmps223,List.size_toArray,List.length_cons,List.length_nil,Nat.reduceAdd,Nat.reduceSub,Array.replicate_succ,Array.replicate_zero,List.push_toArray,List.append_toArray,List.nil_append,List.cons_append];have hcell:W.cell? ⟨bl,0,none⟩=some (.slice s len cap):=by simp [World.cell?,hbl]
 gi_wp2_with fail;refine ⟨trivial,(yty hone (hrow W hw).1 (hrow W hw).2).mono ?_⟩;rintro e W2 ⟨rfl,hk2⟩;have hbl2:=(hk2.block bl (Array.getElem?_eq_some_iff.1 hbl).1 fun h=>h).trans hbl;have hcell2:W2.cell? ⟨bl,0,none⟩=some (.slice s len cap):=by simp [World.cell?,hbl2]
 gi_wp2_with fail;gi_loopw [3,4,15] (fun v3 v4 v15 Wr=>∃(k:Nat) (lv:Nat) (pre:List Spot),v15= .int .i64 (k:Int)∧v4= .int .i64 (lv:Int)∧lv≤k∧k≤len∧Wr.ownsRow W.heap.size 220 2 v3 (stkS ars k).length (zpe (stkS ars k))∧
  J pre Wr∧pre.map qpa=ysOf k (fun k=>topO (stkS ars k))∧Kept (fun b=>w.heap.size≤b) w Wr∧Kept (fun k=>M k∨k=y∨W.heap.size≤k) W Wr) (fun _ _ v15 _=>len-(intOf v15).toNat)
 case atStart=>exact ⟨0,0,[],rfl,rfl,Nat.le_refl _,Nat.zero_le _,⟨rfl,.inl ⟨rfl,rfl⟩⟩,hJ _ _ _ h0 (hk2.weak fun _ _ h=>h.elim),rfl,hw.trans hk2 fun x h=>h.elim,hk2.weak fun _ _ h=>h.elim⟩
 case round=>
  obtain ⟨k,lv,pre,rfl,rfl,hlv,hkl,hopen,hJp,hpre,hkw,hkW⟩:=hrel;obtain ⟨wo,rfl⟩:∃wo,wo=wr:=⟨_,rfl⟩;by_cases hlt:k<len
  ·have hkl':k<l.length:=by omega
   obtain ⟨a,rfl,c0,c1,c2⟩:=yos (hrow wo hkw).2 hkl';have hsc:=fun (a:Addr) (re im:Nat) (w:World)=>run_store Tryz.prog w a (.complex .f64 re im) .plain rfl
   have hszW:=hkW.size;obtain ⟨i1,hi1,hiz1,his1,hib1⟩:=info_parts (P:=Tryz.prog) (e:=220) (z:=.agg #[.int .i64 0,.int .i64 0]) (size:=2) (bytes:=16) (by kernel_rfl);cases hS:stkS ars k
   case' nil=>
    rw [hS] at hopen;obtain ⟨cp,ob,rfl⟩:=ysj hopen;simp only [List.length_nil] at hopen ⊢;obtain ⟨W1,hW1⟩:∃W1,((wo.alloc (.cells #[.int .i64 l[k].1,.string l[k].2.1,.int .i64 l[k].2.2] 68)).alloc (.cells #[.complex .f64 (floatOfInt .f64 (lv:Int)) (floatOfInt .f64 0),.int .i64 (-1)] 178))=W1:=⟨_,rfl⟩;have hk1':Kept (fun _=>False) wo W1:=by rw [←hW1];exact (kept_alloc wo _).alloc _
    have hk1:Kept (fun b=>W.heap.size≤b) wo W1:=hk1'.weak fun _ _ h=>h.elim
    have hsz1:W1.heap.size=wo.heap.size+2:=by rw [←hW1];simp
    have hyd:=hy pre ((k:Int),(-1,(floatOfInt .f64 (lv:Int),floatOfInt .f64 0))) W1 (hJ _ _ _ hJp hk1) ?pfx (by omega)
    case pfx=>rw [List.map_append,hpre];exact qog hlt (by rw [hS];rfl) rfl
    obtain ⟨fn,tm,asg,bdy,hyr,hround⟩:=hyd;have hpre1:(pre++[((k:Int),((-1:Int),(floatOfInt .f64 (lv:Int),floatOfInt .f64 0)))]).map qpa=ysOf (k+1) (fun k=>topO (stkS ars k)):=by rw [List.map_append,hpre,qfu,hS];rfl
    simp only [yrn] at hyr;generalize pre++[((k:Int),((-1:Int),(floatOfInt .f64 (lv:Int),floatOfInt .f64 0)))]=pre1 at hpre1 hround;have hb6:W1.heap[wo.heap.size]? =some (.cells #[.int .i64 l[k].1,.string l[k].2.1,.int .i64 l[k].2.2] 68 (0,0)):=by rw [←hW1];exact (zbh _ _ _ (by simp)).trans (World.alloc_heap_new wo _)
    have hb7:W1.heap[wo.heap.size+1]? =some (.cells #[.complex .f64 (floatOfInt .f64 (lv:Int)) (floatOfInt .f64 0),.int .i64 (-1)] 178 (0,0)):=by
     rw [←hW1];have:=World.alloc_heap_new (wo.alloc (.cells #[.int .i64 l[k].1,.string l[k].2.1,.int .i64 l[k].2.2] 68)) (.cells #[.complex .f64 (floatOfInt .f64 (lv:Int)) (floatOfInt .f64 0),.int .i64 (-1)] 178)
     rwa [World.size_alloc] at this
    have c70:W1.cell? {block:=wo.heap.size+1,off:=0}=some (.complex .f64 (floatOfInt .f64 (lv:Int)) (floatOfInt .f64 0)):=by simp [World.cell?,hb7]
    have c71:W1.cell? {block:=wo.heap.size+1,off:=1}=some (.int .i64 (-1)):=by simp [World.cell?,hb7]
    have hrow1:W1.ownsRow W.heap.size 220 2 (.slice ob 0 cp) (decS (stkS ars k)).length (zpe (decS (stkS ars k))):=by rw [hS];exact zgs hopen hk1' fun _ _ h=>h
    gi_wp2_with fail
   case' cons x r=>
    obtain ⟨hs1,hs2,hs3⟩:=ycu ars k fun j hj=>har2 j (by omega)
    have hx2:0<x.2:=hs3 x r hS;have hx1:x.1<k∧x.2≤2:=hs1 x (by rw [hS];exact List.mem_cons_self ..);rw [hS] at hs2;rw [List.length_cons] at hs2;rw [hS,List.length_cons] at hopen;obtain ⟨g,cp,rfl⟩:=ownsRow_succ hopen;have hcap0:r.length+1≤cp:=by
     rcases hopen.2 with ⟨h0,_⟩|⟨g',c',cur,hv,_,_,hc,_⟩
     ·cases h0
     ·cases hv;exact hc
    have hgW:W.heap.size≤g:=hopen.yku rfl;have hgl:g<wo.heap.size:=by
     rcases hopen.2 with ⟨h0,_⟩|⟨g',c',cur,hv,_,hh,_⟩
     ·cases h0
     ·cases hv;exact (Array.getElem?_eq_some_iff.1 hh).1
    obtain ⟨Wa,hWa⟩:∃Wa,((wo.alloc (.cells #[.int .i64 l[k].1,.string l[k].2.1,.int .i64 l[k].2.2] 68)).alloc (.cells #[.complex .f64 (floatOfInt .f64 (lv:Int)) (floatOfInt .f64 ((r.length:Int)+1)),.int .i64 (-1)] 178))=Wa:=⟨_,rfl⟩;have hka:Kept (fun _=>False) wo Wa:=by rw [←hWa];exact (kept_alloc wo _).alloc _
    have hsza:Wa.heap.size=wo.heap.size+2:=by rw [←hWa];simp
    have hb6a:Wa.heap[wo.heap.size]? =some (.cells #[.int .i64 l[k].1,.string l[k].2.1,.int .i64 l[k].2.2] 68 (0,0)):=by rw [←hWa];exact (zbh _ _ _ (by simp)).trans (World.alloc_heap_new wo _)
    have hb7a:Wa.heap[wo.heap.size+1]? =some (.cells #[.complex .f64 (floatOfInt .f64 (lv:Int)) (floatOfInt .f64 ((r.length:Int)+1)),.int .i64 (-1)] 178 (0,0)):=by
     rw [←hWa];have:=World.alloc_heap_new (wo.alloc (.cells #[.int .i64 l[k].1,.string l[k].2.1,.int .i64 l[k].2.2] 68)) (.cells #[.complex .f64 (floatOfInt .f64 (lv:Int)) (floatOfInt .f64 ((r.length:Int)+1)),.int .i64 (-1)] 178)
     rwa [World.size_alloc] at this
    have ca1:Wa.cell? {block:=wo.heap.size+1,off:=1}=some (.int .i64 (-1)):=by simp [World.cell?,hb7a]
    have fa1:Wa.frozen? {block:=wo.heap.size+1,off:=1}=false:=by simp [World.frozen?,hb7a]
    have hrowa:=zgs hopen hka fun _ _ h=>h
    have ca2:=yrb hrowa;obtain ⟨Wb,hWb⟩:∃Wb,Wa.setCell {block:=wo.heap.size+1,off:=1} (.int .i64 (x.1:Int))=Wb:=⟨_,rfl⟩;have hkb:Kept (fun b=>b=wo.heap.size+1) Wa Wb:=by rw [←hWb];exact qme
    have hrowb:=zgs hrowa hkb fun g' hg' h=>by have:g=g':=Option.some.inj hg';omega
    have cb1:=yli hrowb;have fb1:=yzj hrowb (r.length*2+1);obtain ⟨W1,hW1⟩:∃W1,Wb.setCell {block:=g,off:=r.length*2+1} (.int .i64 ((x.2:Int)-1))=W1:=⟨_,rfl⟩;have hkc:Kept (fun b=>b=g) Wb W1:=by rw [←hW1];exact qme
    have hk1:Kept (fun b=>W.heap.size≤b) wo W1:=((hka.weak fun _ _ h=>h.elim).trans hkb fun x h=>.inr (by omega)).trans hkc fun x h=>.inl (by omega)
    have hszb:=hkb.size;have hszc:=hkc.size;have hsz1:wo.heap.size+2≤W1.heap.size:=by omega
    have hrow1:W1.ownsRow W.heap.size 220 2 (.slice (some ⟨g,0,none⟩) (r.length+1) cp) (decS (stkS ars k)).length (zpe (decS (stkS ars k))):=by rw [hS,←hW1];have:=xfy hrowb (x.2-1);rw [show ((x.2-1:Nat):Int)=(x.2:Int)-1 by omega] at this;exact this
    have hb6:W1.heap[wo.heap.size]? =some (.cells #[.int .i64 l[k].1,.string l[k].2.1,.int .i64 l[k].2.2] 68 (0,0)):=(hkc.block _ (by omega) (by omega)).trans ((hkb.block _ (by omega) (by omega)).trans hb6a);have hb7b:Wb.heap[wo.heap.size+1]? =some (.cells #[.complex .f64 (floatOfInt .f64 (lv:Int)) (floatOfInt .f64 ((r.length:Int)+1)),.int .i64 (x.1:Int)] 178 (0,0)):=by rw [←hWb];unfold World.setCell;simp only [Array.getElem?_modify,if_true,hb7a];simp
    have hb7:=(hkc.block _ (by omega) (by omega)).trans hb7b;have c70:W1.cell? {block:=wo.heap.size+1,off:=0}=some (.complex .f64 (floatOfInt .f64 (lv:Int)) (floatOfInt .f64 ((r.length:Int)+1))):=by simp [World.cell?,hb7]
    have c71:W1.cell? {block:=wo.heap.size+1,off:=1}=some (.int .i64 (x.1:Int)):=by simp [World.cell?,hb7]
    have hyd:=hy pre ((k:Int),((x.1:Int),(floatOfInt .f64 (lv:Int),floatOfInt .f64 ((r.length:Int)+1)))) W1 (hJ _ _ _ hJp hk1) ?pfx2 (by omega)
    case pfx2=>rw [List.map_append,hpre];exact qog hlt (by rw [hS];rfl) rfl
    obtain ⟨fn,tm,asg,bdy,hyr,hround⟩:=hyd;have hpre1:(pre++[((k:Int),((x.1:Int),(floatOfInt .f64 (lv:Int),floatOfInt .f64 ((r.length:Int)+1))))]).map qpa=ysOf (k+1) (fun k=>topO (stkS ars k)):=by rw [List.map_append,hpre,qfu,hS];rfl
    simp only [yrn] at hyr;generalize pre++[((k:Int),((x.1:Int),(floatOfInt .f64 (lv:Int),floatOfInt .f64 ((r.length:Int)+1))))]=pre1 at hpre1 hround;gi_wp2_with fail
   all_goals
    refine RoundIn.mono (xcj hround) ?_;rintro e W3 ⟨rfl,hJ3,hk3⟩;have hsz3:=hk3.size;have hge3:∀b,W.heap.size≤b→¬(M b∨b=y):=fun b hb h=>by
     rcases h with h|h
     ·have:=(hM b h).2;omega
     ·omega
    have hrow3:=zgs hrow1 hk3 fun g hg=>hge3 g (hrow1.yku hg)
    have hb3:=(hk3.block _ (by omega) (hge3 _ hszW)).trans hb6;have c3:W3.cell? {block:=wo.heap.size,off:=0}=some (.int .i64 l[k].1):=by simp [World.cell?,hb3]
    have hkw3:Kept (fun b=>w.heap.size≤b) w W3:=(hkw.trans hk1 fun x h=>.inl (by have:=hw.size;omega)).trans hk3 fun x h=>.inl (by rcases h with h|h;exact (hM x h).1;omega)
    have hkW3:Kept (fun k=>M k∨k=y∨W.heap.size≤k) W W3:=(hkW.trans hk1 fun x h=>.inl (.inr (.inr h))).trans hk3 fun x h=>.inl (h.imp id .inl)
    clear hyr hround c70 c71 hb7;gi_wp2_with fail;refine ⟨trivial,(qtc (har k hkl') (hrow W3 hkw3).1).mono ?_⟩;rintro e W4 ⟨rfl,hk4⟩;have hsz4:=hk4.size;have hrow4:=zgs hrow3 hk4 fun _ _ h=>h
    have hb4:=(hk4.block _ (by omega) fun h=>h).trans hb3;have c4:W4.cell? {block:=wo.heap.size,off:=0}=some (.int .i64 l[k].1):=by simp [World.cell?,hb4]
    have hJ4:=hJ _ _ _ hJ3 (hk4.weak fun _ _ h=>h.elim);have hkw4:=hkw3.trans hk4 fun x h=>h.elim
    have hkW4:=hkW3.trans hk4 fun x h=>h.elim
    clear hk4 hk3 hrow3 hb3 c3 hJ3 hkw3 hkW3;have hnb4:=fun g (hg:_=some g)=>hrow4.xgv hg hb4 (by decide)
    have hlen4:(decS (stkS ars k)).length≤k:=xca ars k;have hq1:(decS (stkS ars k)).length+1≤maxLen:=by unfold maxLen;omega
    have hq2:((decS (stkS ars k)).length+1)*16≤140737488355328:=by omega
    have hq3:W.heap.size≤(W4.alloc (.cells #[.int .i64 (k:Int),.int .i64 (ars k:Int)] 220)).heap.size:=by rw [World.size_alloc];omega
    have hq4:∀u∈[Value.int .i64 (k:Int),Value.int .i64 (ars k:Int)],u.oneCell'=true:=by simp [Value.oneCell']
    have hlit:=ownsRow_lit (w:=W4) (base:=W.heap.size) (e:=220) (cs:= #[.int .i64 (k:Int),.int .i64 (ars k:Int)]) (by omega) (by simp);by_cases hz:ars k=0
    case' pos=>
     have hrow6:=hrow4;have hlen6:(decS (stkS ars k)).length≤k+1:=by omega
     have hpop6:popZ (decS (stkS ars k))=stkS ars (k+1):=by show _=zuo _ _ _;rw [hz];rfl
     have hful6:ars k≠0→decS (stkS ars k)=stkS ars (k+1):=fun h=>absurd hz h
     have hb6':=hb4;have hJ6:=hJ4;have hkw6:=hkw4;have hkW6:=hkW4;have hz':(ars k:Int)=0:=by omega
     rw [hz'];gi_wp2_with fail
    case' neg=>
     gi_wp2_with (gi_at_builtin;go_loud (refine qtg _ rfl _ _ 216 rfl W.heap.size 220 i1 _ 2 16 Tryz.underlying216 hi1 hiz1 his1 hib1 rfl Nat.two_pos _ _ _ rfl (hrow4.alloc _) ⟨W4.heap.size,0,none⟩ 1 1 [.int .i64 (k:Int),.int .i64 (ars k:Int)] rfl rfl (fun j u hu=>zqc hlit j u hu) hq4 hq1 hq2 hq3 ?_;intro v5 W5 hrow5 hk5 hnil5;have hsz5:=hk5.size;rw [World.size_alloc] at hsz5));have hk45:Kept (fun b=>W.heap.size≤b) W4 W5:=((kept_alloc W4 _).weak fun _ _ h=>h.elim).trans hk5 fun x h=>.inl (hrow4.yku h)
     have hrow6:W5.ownsRow W.heap.size 220 2 v5 ((k,ars k)::decS (stkS ars k)).length (zpe ((k,ars k)::decS (stkS ars k))):=by rw [qwr];exact hrow5
     have hlen6:((k,ars k)::decS (stkS ars k)).length≤k+1:=by rw [List.length_cons];omega
     have hful6:ars k≠0→(k,ars k)::decS (stkS ars k)=stkS ars (k+1):=fun h=>by show _=zuo _ _ _;unfold zuo;rw [if_pos (by omega)]
     have hpop6:popZ ((k,ars k)::decS (stkS ars k))=stkS ars (k+1):=by rw [←hful6 hz];unfold popZ;rw [if_neg hz]
     have hb6':W5.heap[wo.heap.size]? =some (.cells #[.int .i64 l[k].1,.string l[k].2.1,.int .i64 l[k].2.2] 68 (0,0)):=(hk5.block _ (by rw [World.size_alloc];omega) fun h=>hnb4 _ h rfl).trans ((zbh W4 _ _ (by omega)).trans hb4);have hJ6:=hJ _ _ _ hJ4 hk45;have hkw6:=hkw4.trans hk45 fun x h=>.inl (by have:=hw.size;omega)
     have hkW6:=hkW4.trans hk45 fun x h=>.inl (.inr (.inr h))
    all_goals
     gi_loopw [3] (fun v3 W'=>∃S':Stk,S'.length≤k+1∧W'.ownsRow W.heap.size 220 2 v3 S'.length (zpe S')∧popZ S'=stkS ars (k+1)∧(ars k≠0→S'=stkS ars (k+1))∧
      W'.heap[wo.heap.size]? =some (.cells #[.int .i64 l[k].1,.string l[k].2.1,.int .i64 l[k].2.2] 68 (0,0))∧J pre1 W'∧Kept (fun b=>w.heap.size≤b) w W'∧Kept (fun k=>M k∨k=y∨W.heap.size≤k) W W') (fun v3 _=>sliceLen v3)
     case' atStart=>exact ⟨_,hlen6,hrow6,hpop6,hful6,hb6',hJ6,hkw6,hkW6⟩
     case' round=>
      clear hrow6 hb6' hJ6 hkw6 hkW6 hrow4 hb4 c4 hJ4 hkw4 hkW4 hq3 hlit;obtain ⟨S',hSl,hr,hp,hf,hb,hJ',hkw',hkW'⟩:=hrel;cases S'
      case' nil=>
       obtain ⟨cp',ob',rfl⟩:=ysj hr;simp only [List.length_nil] at hr ⊢;gi_wp2_with fail;refine ⟨trivial,?_⟩;gi_wp2_with fail;have hT:stkS ars (k+1)=[]:=hp.symm;refine ⟨?_,?_⟩
       ·first
        |exact ⟨k+1,lv,pre1,rfl,rfl,by omega,by omega,by rw [hT];exact hr,hJ',hpre1,hkw',hkW'⟩
        |exact ⟨k+1,lv+1,pre1,rfl,rfl,by omega,by omega,by rw [hT];exact hr,hJ',hpre1,hkw',hkW'⟩
       ·show len-(((k+1:Nat):Int)).toNat<len-((k:Nat):Int).toNat;omega
      case' cons z r=>
       obtain ⟨g,cap',rfl⟩:=ownsRow_succ hr;have hctop:=yli hr;have hcap:r.length+1≤cap':=by
        rcases hr.2 with ⟨h0,_⟩|⟨g',c',cur,hv,_,_,hc,_⟩
        ·cases h0
        ·cases hv;exact hc
       rw [List.length_cons] at hSl hr;by_cases hz0:z.2=0
       case' pos=>
        rw [hz0] at hctop;have hk0:ars k=0:=Classical.byContradiction fun h=>by
         have h1:=hf h;have h2:stkS ars (k+1)=(k,ars k)::decS (stkS ars k):=by show zuo _ _ _=_;unfold zuo;rw [if_pos (by omega)]
         rw [h2] at h1;have h3:z=(k,ars k):=(List.cons.inj h1).1;rw [h3] at hz0;exact h hz0
        try exact absurd hk0 hz
        all_goals
         have hark:zlz l[k].1=some 0:=by rw [har k hkl',hk0];rfl
         have c9:wr.cell? {block:=wo.heap.size,off:=0}=some (.int .i64 l[k].1):=by simp [World.cell?,hb]
         gi_wp2_with fail;refine ⟨trivial,(qtc hark (hrow wr hkw').1).mono ?_⟩;rintro e W9 ⟨rfl,hk9⟩;gi_wp2_with fail;have hp':popZ r=stkS ars (k+1):=by
          rw [←hp];show _=if z.2=0 then popZ r else z::r
          rw [if_pos hz0]
         refine ⟨⟨r,by omega,xfz (zot r) (zgs (by rw [qwr] at hr;exact hr) hk9 fun _ _ h=>h),hp',fun h=>absurd hk0 h,(hk9.block _ (Array.getElem?_eq_some_iff.1 hb).1 fun h=>h).trans hb,hJ _ _ _ hJ' (hk9.weak fun _ _ h=>h.elim),hkw'.trans hk9 fun x h=>h.elim,hkW'.trans hk9 fun x h=>h.elim⟩,?_⟩;show r.length<r.length+1;omega
       case' neg=>
        gi_wp2_with fail;refine ⟨trivial,?_⟩;gi_wp2_with fail;have hT:stkS ars (k+1)=z::r:=by rw [←hp];show (if z.2=0 then popZ r else z::r)=_;rw [if_neg hz0]
        refine ⟨?_,?_⟩
        ·first
         |exact ⟨k+1,lv,pre1,rfl,rfl,by omega,by omega,by rw [hT];exact hr,hJ',hpre1,hkw',hkW'⟩
         |exact ⟨k+1,lv+1,pre1,rfl,rfl,by omega,by omega,by rw [hT];exact hr,hJ',hpre1,hkw',hkW'⟩
        ·show len-(((k+1:Nat):Int)).toNat<len-((k:Nat):Int).toNat;omega
  ·have hke:k=len:=by omega
   subst hke;gi_wp2_with fail;exact ⟨rfl,.tuple #[],by first|kernel_rfl|simp [results,Tryz.f223,go_sem],⟨_,rfl⟩,pre,hpre,hJp⟩
end Go.Proofs.YtjolkdjkhekbnaaGreatDoor.Sv
