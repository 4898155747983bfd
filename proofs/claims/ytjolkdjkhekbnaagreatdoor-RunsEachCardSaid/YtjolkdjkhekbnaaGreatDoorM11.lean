/- Places that wait, what lies above and beside them: plain Lean, no program in sight. -/
import Derived.Test.YtjolkdjkhekbnaaGreatDoorM5
namespace Go.Rd
open Go Go.Sv
def goK (k:Int):Nat:=if k=5∨k=8∨k=12∨k=13∨k=9 then 1 else if k=7 then 2 else 0
def zcp (k:Int):Bool:=decide (k=1∨k=6∨k=4∨k=10)
theorem qyk {k:Int} (h:zcp k=true):goK k=0:=by
 rcases of_decide_eq_true h with rfl|rfl|rfl|rfl<;>rfl
namespace T
def wts:T→Nat→List Nat
 |n0 n,i=>if zcp n.1 then [i] else []
 |n1 n a,i=>if zcp n.1 then [i] else if 0<goK n.1 then a.wts (i+1) else []
 |n2 n a b,i=>if zcp n.1 then [i] else (if 0<goK n.1 then a.wts (i+1) else [])++(if 1<goK n.1 then b.wts (i+1+a.size) else [])
def path:T→Nat→Nat→List (Nat×Nat×T)
 |n0 _,_,_=>[]
 |n1 n a,i,k=>if k=i then [] else (i,0,n1 n a)::a.path (i+1) k
 |n2 n a b,i,k=>if k=i then [] else if k<i+1+a.size then (i,0,n2 n a b)::a.path (i+1) k else (i,1,n2 n a b)::b.path (i+1+a.size) k
theorem zox (n:Nd) (a:T) (i k:Nat):(n1 n a).path i k=if k=i then [] else (i,0,n1 n a)::a.path (i+1) k:=rfl
theorem zfx (n:Nd) (a b:T) (i k:Nat):(n2 n a b).path i k=if k=i then [] else if k<i+1+a.size then (i,0,n2 n a b)::a.path (i+1) k else (i,1,n2 n a b)::b.path (i+1+a.size) k:=rfl
def ovr (t:T) (k:Nat):List Nat:=(t.path 0 k).map (·.1)
def kid (s:T) (j:Nat):List Nd:=match s.kids[j]? with|some c=>c.row|none=>[]
end T
def zvd (p:List (Nat×Nat×T)):Bool:=p.any fun x=>decide (goK x.2.2.hd.1≤x.2.1)
theorem qrj (i n m:Nat):List.range' i (n+m+1)=i::(List.range' (i+1) n++List.range' (i+1+n) m):=by
 rw [show n+m+1=1+(n+m) by omega,←List.range'_append_1 (s:=i) (m:=1) (n:=n+m),←List.range'_append_1 (s:=i+1)]
 rfl
theorem zrr {α:Type} {p:α→Bool} {l:List α} (h:∀x∈l,p x=false):l.filter p=[]:=by
 rw [List.filter_eq_nil_iff];intro x hx;rw [h x hx];simp
theorem zih (l:List Nd):∀(t:T) (i:Nat) (r:List Nd),l.drop i=t.row++r→t.wts i=(List.range' i t.size).filter fun k=>zcp (l.getD k default).1&& !zvd (t.path i k)
 | .n0 n,i,r,h=>by
   have h0:l.getD i default=n:=by
    have:l[i]? =some n:=by rw [←List.head?_drop,h];rfl
    rw [List.getD_eq_getElem?_getD,this];rfl
   show (if zcp n.1 then [i] else [])=([i].filter _)
   simp only [List.filter_cons,List.filter_nil,h0,T.path,zvd,List.any_nil,Bool.not_false,Bool.and_true]
 | .n1 n a,i,r,h=>by
   have h0:l.getD i default=n:=by
    have:l[i]? =some n:=by rw [←List.head?_drop,h];rfl
    rw [List.getD_eq_getElem?_getD,this];rfl
   have ha:l.drop (i+1)=a.row++r:=by rw [←List.drop_drop,h];rfl
   have hp:∀k∈List.range' (i+1) a.size,zvd ((T.n1 n a).path i k)=(decide (goK n.1≤0)||zvd (a.path (i+1) k)):=fun k hk=>by
    rw [List.mem_range'_1] at hk
    rw [T.zox,if_neg (by omega)]
    rfl
   have e0:zvd ((T.n1 n a).path i i)=false:=by rw [T.zox,if_pos rfl];rfl
   show (if zcp n.1 then [i] else if 0<goK n.1 then a.wts (i+1) else [])=(List.range' i (a.size+1)).filter _
   rw [show List.range' i (a.size+1)=i::List.range' (i+1) a.size from rfl,List.filter_cons,h0,e0,Bool.not_false,Bool.and_true]
   have ih:=zih l a (i+1) r ha
   by_cases hg:0<goK n.1
   ·have hw:zcp n.1=false:=by cases hw:zcp n.1;rfl;rw [qyk hw] at hg;omega
    rw [hw,if_pos hg,ih]
    simp only [Bool.false_eq_true,if_false]
    refine List.filter_congr fun k hk=> ?_
    rw [hp k hk,decide_eq_false (by omega),Bool.false_or]
   ·rw [if_neg hg,zrr (l:=List.range' (i+1) a.size) fun k hk=>by rw [hp k hk,decide_eq_true (by omega)];simp]
 | .n2 n a b,i,r,h=>by
   have h0:l.getD i default=n:=by
    have:l[i]? =some n:=by rw [←List.head?_drop,h];rfl
    rw [List.getD_eq_getElem?_getD,this];rfl
   have ha:l.drop (i+1)=a.row++(b.row++r):=by rw [←List.drop_drop,h];simp [T.row]
   have hb:l.drop (i+1+a.size)=b.row++r:=by rw [←List.drop_drop,ha,←T.zab a,List.drop_left]
   have hpa:∀k∈List.range' (i+1) a.size,zvd ((T.n2 n a b).path i k)=(decide (goK n.1≤0)||zvd (a.path (i+1) k)):=fun k hk=>by
    rw [List.mem_range'_1] at hk
    rw [T.zfx,if_neg (by omega),if_pos (by omega)]
    rfl
   have hpb:∀k∈List.range' (i+1+a.size) b.size,zvd ((T.n2 n a b).path i k)=(decide (goK n.1≤1)||zvd (b.path (i+1+a.size) k)):=fun k hk=>by
    rw [List.mem_range'_1] at hk
    rw [T.zfx,if_neg (by omega),if_neg (by omega)]
    rfl
   have e0:zvd ((T.n2 n a b).path i i)=false:=by rw [T.zfx,if_pos rfl];rfl
   show (if zcp n.1 then [i] else (if 0<goK n.1 then a.wts (i+1) else [])++(if 1<goK n.1 then b.wts (i+1+a.size) else []))=(List.range' i (a.size+b.size+1)).filter _
   rw [qrj,List.filter_cons,List.filter_append,h0,e0,Bool.not_false,Bool.and_true]
   have iha:=zih l a (i+1) _ ha
   have ihb:=zih l b (i+1+a.size) r hb
   by_cases hg:0<goK n.1
   ·have hw:zcp n.1=false:=by cases hw:zcp n.1;rfl;rw [qyk hw] at hg;omega
    rw [hw,if_pos hg,iha]
    simp only [Bool.false_eq_true,if_false]
    congr 1
    ·refine List.filter_congr fun k hk=> ?_
     rw [hpa k hk,decide_eq_false (by omega),Bool.false_or]
    ·by_cases hg2:1<goK n.1
     ·rw [if_pos hg2,ihb]
      refine List.filter_congr fun k hk=> ?_
      rw [hpb k hk,decide_eq_false (by omega),Bool.false_or]
     ·rw [if_neg hg2,zrr (l:=List.range' (i+1+a.size) b.size) fun k hk=>by rw [hpb k hk,decide_eq_true (by omega)];simp]
   ·have hg2:¬1<goK n.1:=by omega
    rw [if_neg hg,if_neg hg2,zrr (l:=List.range' (i+1) a.size) fun k hk=>by rw [hpa k hk,decide_eq_true (by omega)];simp,
     zrr (l:=List.range' (i+1+a.size) b.size) fun k hk=>by rw [hpb k hk,decide_eq_true (by omega)];simp]
    rfl
def qtq (l:List Nd) (at_:Nat) (x:Nat×Nat×T):Prop:=x.2.2.ok∧(∃r,l.drop x.1=x.2.2.row++r)∧x.1<at_∧match x.2.2 with
 | .n0 _=>False
 | .n1 _ a=>x.2.1=0∧at_<x.1+1+a.size
 | .n2 _ a b=>(x.2.1=0∧at_<x.1+1+a.size)∨(x.2.1=1∧x.1+1+a.size≤at_∧at_<x.1+1+a.size+b.size)
theorem qgm (l:List Nd) (k:Nat):∀(t:T) (i:Nat) (r:List Nd),t.ok→l.drop i=t.row++r→i≤k→k<i+t.size→∀x∈t.path i k,qtq l k x
 | .n0 n,i,r,ht,h,h1,h2,x,hx=>by cases hx
 | .n1 n a,i,r,ht,h,h1,h2,x,hx=>by
   simp only [T.size] at h2
   rw [T.zox] at hx
   split at hx
   ·cases hx
   ·rename_i hne
    have ha:l.drop (i+1)=a.row++r:=by rw [←List.drop_drop,h];rfl
    rcases List.mem_cons.1 hx with rfl|hx
    ·exact ⟨ht,⟨r,h⟩,show i<k by omega,rfl,show k<i+1+a.size by omega⟩
    ·exact qgm l k a (i+1) r ht.2 ha (by omega) (by omega) x hx
 | .n2 n a b,i,r,ht,h,h1,h2,x,hx=>by
   simp only [T.size] at h2
   have ha:l.drop (i+1)=a.row++(b.row++r):=by rw [←List.drop_drop,h];simp [T.row]
   have hb:l.drop (i+1+a.size)=b.row++r:=by rw [←List.drop_drop,ha,←T.zab a,List.drop_left]
   rw [T.zfx] at hx
   split at hx
   ·cases hx
   ·rename_i hne
    split at hx
    ·rename_i hlt
     rcases List.mem_cons.1 hx with rfl|hx
     ·exact ⟨ht,⟨r,h⟩,show i<k by omega,.inl ⟨rfl,hlt⟩⟩
     ·exact qgm l k a (i+1) _ ht.2.1 ha (by omega) (by omega) x hx
    ·rename_i hlt
     rcases List.mem_cons.1 hx with rfl|hx
     ·exact ⟨ht,⟨r,h⟩,show i<k by omega,.inr ⟨rfl,show i+1+a.size≤k by omega,show k<i+1+a.size+b.size by omega⟩⟩
     ·exact qgm l k b (i+1+a.size) r ht.2.2 hb (by omega) (by omega) x hx
theorem zxm:∀(t:T) (i:Nat),∀k∈t.wts i,i≤k∧k<i+t.size
 | .n0 n,i,k,h=>by
   unfold T.wts at h
   split at h
   ·rw [List.mem_singleton] at h;subst h;exact ⟨Nat.le_refl _,by simp [T.size]⟩
   ·cases h
 | .n1 n a,i,k,h=>by
   unfold T.wts at h
   simp only [T.size]
   split at h
   ·rw [List.mem_singleton] at h;omega
   ·split at h
    ·have:=zxm a (i+1) k h;omega
    ·cases h
 | .n2 n a b,i,k,h=>by
   unfold T.wts at h
   simp only [T.size]
   split at h
   ·rw [List.mem_singleton] at h;omega
   ·rcases List.mem_append.1 h with h|h
    ·split at h
     ·have:=zxm a (i+1) k h;omega
     ·cases h
    ·split at h
     ·have:=zxm b (i+1+a.size) k h;omega
     ·cases h
def zaz:List (Nat×Nat×T)→List (List Nd)×Bool
 |[]=>([],false)
 |x::r=>if (zaz r).2=true then ((zaz r).1,true) else if x.2.2.hd.1=7 then ((zaz r).1++[x.2.2.kid (1-x.2.1)],false) else ((zaz r).1,decide (x.2.2.hd.1=9))
def revB:List (Nat×Nat×T)→List (List Nd)→List (List Nd)×Bool
 |[],out=>(out,false)
 |x::r,out=>if x.2.2.hd.1=9 then (out,true) else if x.2.2.hd.1=7 then revB r (out++[x.2.2.kid (1-x.2.1)]) else revB r out
theorem zws:∀(p q:List (Nat×Nat×T)) (out:List (List Nd)),revB (p++q) out=if (revB p out).2=true then revB p out else revB q (revB p out).1
 |[],q,out=>by simp [revB]
 |x::p,q,out=>by
  simp only [List.cons_append,revB]
  split
  ·simp
  ·split
   ·exact zws p q _
   ·exact zws p q _
theorem qcc:∀(p:List (Nat×Nat×T)),revB p.reverse []=zaz p
 |[]=>rfl
 |x::p=>by
  rw [List.reverse_cons,zws,qcc p,zaz]
  split
  ·rename_i h
   exact Prod.ext rfl h
  ·rename_i h
   simp only [revB]
   by_cases h9:x.2.2.hd.1=9
   ·rw [if_pos h9,if_neg (by rw [h9];decide),decide_eq_true h9]
   ·by_cases h7:x.2.2.hd.1=7
    ·rw [if_neg h9,if_pos h7,if_pos h7]
    ·rw [if_neg h9,if_neg h7,if_neg h7,decide_eq_false h9]
theorem qgc (t:T):t.hd∈t.row:=by cases t<;>simp [T.hd,T.row]
theorem qnz:∀(t:T) (i k:Nat),t.ok→∀x∈t.path i k,x.2.2.hd∈t.row∧(x.2.2.hd.1=7→∃c:T,c.ok∧c.size≤t.size∧x.2.2.kid (1-x.2.1)=c.row)
 | .n0 n,i,k,ht,x,hx=>by cases hx
 | .n1 n a,i,k,ht,x,hx=>by
   rw [T.zox] at hx
   split at hx
   ·cases hx
   ·rcases List.mem_cons.1 hx with rfl|hx
    ·refine ⟨qgc _,fun h7=> ?_⟩
     have h7:n.1=7:=h7
     have:=ht.1
     rw [h7] at this
     cases this
    ·obtain ⟨h1,h2⟩:=qnz a (i+1) k ht.2 x hx
     refine ⟨List.mem_cons_of_mem _ h1,fun h7=> ?_⟩
     obtain ⟨c,c1,c2,c3⟩:=h2 h7
     exact ⟨c,c1,by simp only [T.size];omega,c3⟩
 | .n2 n a b,i,k,ht,x,hx=>by
   rw [T.zfx] at hx
   split at hx
   ·cases hx
   ·split at hx
    ·rcases List.mem_cons.1 hx with rfl|hx
     ·exact ⟨qgc _,fun h7=>⟨b,ht.2.2,by simp only [T.size];omega,rfl⟩⟩
     ·obtain ⟨h1,h2⟩:=qnz a (i+1) k ht.2.1 x hx
      refine ⟨List.mem_cons_of_mem _ (List.mem_append_left _ h1),fun h7=> ?_⟩
      obtain ⟨c,c1,c2,c3⟩:=h2 h7
      exact ⟨c,c1,by simp only [T.size];omega,c3⟩
    ·rcases List.mem_cons.1 hx with rfl|hx
     ·exact ⟨qgc _,fun h7=>⟨a,ht.2.1,by simp only [T.size];omega,rfl⟩⟩
     ·obtain ⟨h1,h2⟩:=qnz b (i+1+a.size) k ht.2.2 x hx
      refine ⟨List.mem_cons_of_mem _ (List.mem_append_right _ h1),fun h7=> ?_⟩
      obtain ⟨c,c1,c2,c3⟩:=h2 h7
      exact ⟨c,c1,by simp only [T.size];omega,c3⟩
theorem qpj:∀{p:List (Nat×Nat×T)} {y:List Nd},y∈(zaz p).1→∃x∈p,x.2.2.hd.1=7∧y=x.2.2.kid (1-x.2.1)
 |[],y,h=>by cases h
 |x::p,y,h=>by
  have up:(∃z∈p,z.2.2.hd.1=7∧y=z.2.2.kid (1-z.2.1))→∃z∈x::p,z.2.2.hd.1=7∧y=z.2.2.kid (1-z.2.1):=fun ⟨z,hz,h⟩=>⟨z,List.mem_cons_of_mem _ hz,h⟩
  rw [zaz] at h
  split at h
  ·exact up (qpj h)
  ·split at h
   ·rename_i h7
    rcases List.mem_append.1 h with h|h
    ·exact up (qpj h)
    ·exact ⟨x,List.mem_cons_self ..,h7,List.mem_singleton.1 h⟩
   ·exact up (qpj h)
namespace Tm
def bang:Tm→Bool
 |over s=>decide (s=2)
 |fin s _=>decide (s=2)
 |seq a _=>a.bang
 |going a _=>a.bang
 |stack a _=>a.bang
 |par a b=>a.bang||b.bang
 |_=>false
end Tm
end Go.Rd
