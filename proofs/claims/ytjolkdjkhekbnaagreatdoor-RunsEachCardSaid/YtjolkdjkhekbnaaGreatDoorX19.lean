/- step.Put: its contract. -/
import Derived.Test.YtjolkdjkhekbnaaGreatDoorX18
import Derived.Test.YtjolkdjkhekbnaaGreatDoorL10
import Derived.Test.YtjolkdjkhekbnaaGreatDoorW03r
import Derived.Test.YtjolkdjkhekbnaaGreatDoorW10
namespace Go.Proofs.YtjolkdjkhekbnaaGreatDoor.Sv
open Go Go.Sv Go.Proofs Go.Rd Go.RowKit
set_option maxRecDepth 100000
theorem ytw [Dfr] (l:List Nd):sz l≤l.length:=by
 unfold sz
 cases h:P l with
 |none=>simp
 |some q =>
  obtain ⟨t,r⟩:=q
  have e:=(yvw.1 h).2
  rw [e,List.length_append,T.zab]
  simp
def putR (l:List Nd) (k:Int) (x:List Nd):List Nd :=
 if 0≤k∧k<(l.length:Int)∧0<sz (l.drop k.toNat) then l.take k.toNat++x++l.drop (k.toNat+sz (l.drop k.toNat)) else l
def zum (l:List Nd) (k:Int) (x:List Nd):Option (List Nd):=if l.length≤1000000∧x.length≤1000000 then some (putR l k x) else none
class zjx [Dfr]:Prop where
 put:∀l k x,zlt l k x=zum l k x
theorem yem [Dfr] [zcx] (w:World) (F:Nat→Prop) (l x:List Nd) (k:Int) (s0 s2:Option Addr) (c0 c2:Nat) (hF:∀b,F b→b<w.heap.size) (hg:zcr E F w)
 (hl:Cl F w (.slice 68 NdY) l [.slice s0 l.length c0]) (hx:Cl F w (.slice 68 NdY) x [.slice s2 x.length c2]) (hll:l.length≤1000000) (hxl:x.length≤1000000) :
 Calls Tryz.prog 72 #[.slice s0 l.length c0,.int .i64 k,.slice s2 x.length c2] w (qto F w (putR l k x)):=by
 unfold putR
 by_cases h0:k<0
 ·rw [if_neg (by omega)]
  exact quv w F l s0 s2 c0 c2 x.length k hl h0 hll
 ·obtain ⟨j,rfl⟩:=Int.eq_ofNat_of_zero_le (a:=k) (by omega)
  by_cases h1:j<l.length
  ·have hd:(l.drop j).length≤1000000:=by rw [List.length_drop];omega
   have hsz:=zpy (l.drop j) (by omega)
   have hle:=ytw (l.drop j)
   rw [List.length_drop] at hle
   by_cases h2:0<sz (l.drop j)
   ·rw [if_pos ⟨by omega,by omega,by simpa using h2⟩]
    exact yab w F l x s0 s2 c0 c2 j (sz (l.drop j)) hF hg hl hx h1 hsz h2 (by omega) hll hxl
   ·rw [if_neg (fun h=>h2 (by simpa using h.2.2))]
    have:sz (l.drop j)=0:=by omega
    rw [this] at hsz
    exact quu w F l s0 s2 c0 c2 x.length j hF hg hl h1 hsz hll
  ·rw [if_neg (by omega)]
   exact quw w F l s0 s2 c0 c2 x.length (j:Int) hl (by omega) hll
theorem qce [Dfr] [zcx] (l:List Nd) (k:Int) (x:List Nd) (r:List Nd) (h:zum l k x=some r):zbr Tryz.prog E 72 (l,k,x) r:=by
 unfold zum at h
 split at h
 ·rename_i hc
  obtain ⟨hll,hxl⟩:=hc
  cases h
  intro w F0 G A vs hA
  obtain ⟨v0,v1,v2,rfl,h0,h1,h2⟩:∃v0 v1 v2,vs=[v0,v1,v2]∧Cl (A.F F0) w (.slice 68 NdY) l [v0]∧v1= .int .i64 k∧Cl (A.F F0) w (.slice 68 NdY) x [v2]:=by
   have hr:=hA.rel
   cases hr with
   |cons a hr=>cases hr with
    |cons b hr=>cases hr with
     |cons c hr=>cases hr;exact ⟨_,_,_,rfl,a,b,c⟩
  subst h1
  have shape:∀{y:List Nd} {v:Value},Cl (A.F F0) w (.slice 68 NdY) y [v]→∃s c,v= .slice s y.length c:=fun h=>by
   rw [Cl] at h
   obtain ⟨a,c,e,_⟩:=h
   exact ⟨a,c,(List.cons.inj e).1⟩
  obtain ⟨s0,c0,rfl⟩:=shape h0
  obtain ⟨s2,c2,rfl⟩:=shape h2
  have hF:∀b,A.F F0 b→b<w.heap.size:=fun b hb=>by
   rcases hb with hb|⟨d,hb⟩|⟨n,l,hb⟩
   ·exact (hA.f0 b hb).1
   ·rw [hA.bx] at hb;cases hb
   ·exact (hA.tgm n b l hb).2
  refine (yem w (A.F F0) l x k s0 s2 c0 c2 hF hA.glob h0 h2 hll hxl).mono ?_
  rintro e w' ⟨g,cur,rfl,hk,hg,hh,hE⟩
  have hgl:g<w'.heap.size:=(Array.getElem?_eq_some_iff.1 hh).1
  refine ⟨_,rfl,⟨hk.os,hk.tape,hk.output,hk.size,fun b hb _=>hk.block b hb (fun h=>h),hk.drawn⟩,fun d=>⟨⟨fun _=>none,fun n=>if n=zay d 0 0 then some (g,(putR l k x).length) else none⟩,?_,fun _=>rfl,fun n b l h=> ?_,fun n n' b l l' h h'=> ?_⟩⟩
  ·have S:Step (A.F F0) (Fr.F ⟨fun _=>none,fun n=>if n=zay d 0 0 then some (g,(putR l k x).length) else none⟩ F0) w w':=by
    refine ⟨fun b hb hlt=>hk.block b hlt (fun h=>h),fun b hb=> ?_⟩
    rcases hb with hb|⟨d',hb⟩|⟨n,l',hb⟩
    ·exact .inl (.inl hb)
    ·cases hb
    ·simp only at hb
     split at hb
     ·cases hb;exact .inr hg
     ·cases hb
   have hlen:=hE.len
   refine .inr ⟨g,(putR l k x).length,if_pos rfl,rfl,(putR l k x).length,cur,rfl,hh,Nat.le_refl _,?_,by rw [←Array.length_toList];exact hlen,fun i y hy=> ?_⟩
   ·have:(putR l k x).length≤3000000:=by
     unfold putR
     split
     ·rw [List.length_append,List.length_append,List.length_take,List.length_drop];omega
     ·omega
    unfold maxLen;omega
   ·obtain ⟨ds,hd,hj⟩:=hE.el i y hy
    refine ⟨ds,hd.step S,fun j u hu=> ?_⟩
    have:=hj j u hu
    rwa [Array.getElem?_toList] at this
  ·simp only at h
   split at h
   ·cases h;exact ⟨.inl hg,hgl⟩
   ·cases h
  ·simp only at h h'
   split at h
   ·split at h'
    ·rename_i e1 e2;rw [e1,e2]
    ·cases h'
   ·cases h
 ·cases h
end Go.Proofs.YtjolkdjkhekbnaaGreatDoor.Sv
namespace Go.Proofs.YtjolkdjkhekbnaaGreatDoor.Sv
open Go Go.Sv Go.Rd
theorem qze [Dfr] [zjx] (l:List Nd) (k:Int) (x:List Nd) (hl:l.length≤1000000) (hx:x.length≤1000000):qmv l k x=some (putR l k x):=by
 rw [qua,zjx.put,zum,if_pos ⟨hl,hx⟩]
theorem qxv [Dfr] (l:List Nd) (k:Int) (x:List Nd):(putR l k x).length≤l.length+x.length:=by
 unfold putR
 split
 ·rw [List.length_append,List.length_append,List.length_take,List.length_drop];omega
 ·omega
def znq (l:List Nd) (how:Int):List Nd :=
 if how=2 then ix (zgf l) 0 else if how=3 then ix (zgf l) 1 else
 if how=5 then (if (ix l 0).1=10 then [(14,ByteArray.empty,3),(2,ByteArray.empty,0)] else [(11,ByteArray.empty,3)])
 else (if (ix l 0).1=10 then (12,ByteArray.empty,0)::(zgf l).flatten else [(11,ByteArray.empty,1)])
theorem qhf [Dfr] (l:List Nd):(zgf l).flatten.length≤l.length∧(zgf l).length≤2:=by
 unfold zgf
 cases h:P l with
 |none=>simp
 |some q =>
  obtain ⟨t,r⟩:=q
  have e:=(yvw.1 h).2
  rw [e]
  cases t<;>simp [T.kids,T.row]<;>omega
theorem ygf [Dfr] (l:List Nd) (i:Int) (hi:zaa i (zgf l).length=true):(ix (zgf l) i).length≤l.length:=by
 obtain ⟨h0,h1⟩:=ztk hi
 obtain ⟨j,rfl⟩:=Int.eq_ofNat_of_zero_le h0
 have hj:j<(zgf l).length:=by omega
 have:=(qhf l).1
 rw [qhg hj]
 have h2:((zgf l)[j]).length≤(zgf l).flatten.length:=by
  exact (List.sublist_flatten_of_mem (List.getElem_mem hj)).length_le
 omega
theorem qtz [Dfr] (l:List Nd) (how:Int) (hl:l.length≤500000) (h0:l≠[]) (h2:how=2∨how=3→(zgf l).length=2):qey l how=some (znq l how):=by
 have hpos:0<l.length:=List.length_pos_iff.2 h0
 obtain ⟨k1,k2⟩:=qhf l
 have hm1:∀x y:List Nd,zqt x y l=some (if (ix l 0).1=10 then y else x):=fun x y=>by
  rw [qiz,show zaa 0 l.length=true from zeu hpos]
  by_cases e:(ix l 0).1=10
  ·rw [if_pos e,show ((ix l 0).1==10)=true by rw [e];rfl];rfl
  ·rw [if_neg e,show ((ix l 0).1==10)=false by rw [beq_eq_false_iff_ne];exact e];rfl
 rw [qqc,zgx l (by omega)]
 unfold znq
 simp only [Option.bind_some,qqe,hm1]
 have hmk:zbc (14,ByteArray.empty,3) [[(2,ByteArray.empty,0)]]=some [(14,ByteArray.empty,3),(2,ByteArray.empty,0)]:=zuj _ _ (by decide) (by decide)
 have hmk2:zbc (12,ByteArray.empty,0) (zgf l)=some ((12,ByteArray.empty,0)::(zgf l).flatten):=zuj _ _ (by rw [zol];omega) (by omega)
 by_cases e2:how=2
 ·subst e2
  have:=h2 (.inl rfl)
  rw [show ((2:Int)==2)=true from rfl,if_pos rfl,cond_true,this];rfl
 by_cases e3:how=3
 ·subst e3
  have:=h2 (.inr rfl)
  rw [if_neg e2,if_pos rfl,this];rfl
 by_cases e5:how=5
 ·subst e5
  rw [if_neg e2,if_neg e3,if_pos rfl]
  simp only [show ((5:Int)==2)=false from rfl,show ((5:Int)==3)=false from rfl,show ((5:Int)==5)=true from rfl,cond_false,cond_true,hmk,Option.bind_some,hm1]
 ·rw [if_neg e2,if_neg e3,if_neg e5]
  simp only [show (how==2)=false by rw [beq_eq_false_iff_ne];exact e2,show (how==3)=false by rw [beq_eq_false_iff_ne];exact e3,show (how==5)=false by rw [beq_eq_false_iff_ne];exact e5,cond_false,hmk2,Option.bind_some,hm1]
theorem qxi [Dfr]:∀(t:T) (k:Nat),t.ok→k<t.size→∃(S:T) (r:List Nd),S.ok∧t.row.drop k=S.row++r
 | .n0 n,0,h,_=>⟨.n0 n,[],h,by simp⟩
 | .n1 n a,0,h,_=>⟨.n1 n a,[],h,by simp⟩
 | .n2 n a b,0,h,_=>⟨.n2 n a b,[],h,by simp⟩
 | .n0 n,k+1,h,hk=>by simp only [T.size] at hk;omega
 | .n1 n a,k+1,h,hk=>by
   simp only [T.size] at hk
   obtain ⟨S,r,h1,h2⟩:=qxi a k h.2 (by omega)
   exact ⟨S,r,h1,h2⟩
 | .n2 n a b,k+1,h,hk=>by
   simp only [T.size] at hk
   by_cases hl:k<a.size
   ·obtain ⟨S,r,h1,h2⟩:=qxi a k h.2.1 hl
    refine ⟨S,r++b.row,h1,?_⟩
    show (a.row++b.row).drop k=_
    rw [List.drop_append_of_le_length (by rw [T.zab];omega),h2,List.append_assoc]
   ·obtain ⟨S,r,h1,h2⟩:=qxi b (k-a.size) h.2.2 (by omega)
    refine ⟨S,r,h1,?_⟩
    show (a.row++b.row).drop k=_
    rw [show k=a.row.length+(k-a.size) by rw [T.zab];omega,←List.drop_drop,List.drop_left,h2]
theorem ysv [Dfr] {l:List Nd} {m:Mv} (h:m∈enL l):setL l∧∃(t:T) (k:Nat),tree l=some t∧m.1=(k:Int)∧k<l.length∧k∈t.wts 0∧zcp (l.getD k default).1=true∧m∈zit (l.getD k default).1 (k:Int) (qaz t k):=by
 by_cases hs:setL l
 ·obtain ⟨n,_,_,_,_,_,_,ht⟩:=zyl hs
  rw [qhq ht hs] at h
  obtain ⟨k,hk,hm⟩:=List.mem_flatMap.1 h
  obtain ⟨h1,h2⟩:=qxd ht hk
  exact ⟨hs,n.t,k,ht,yfm.1 _ hm,h1,hk,h2,hm⟩
 ·rw [qys hs] at h;cases h
theorem yqf [Dfr] {l:List Nd} {m:Mv} (h:m∈enL l):∃(k:Nat) (S:T) (r:List Nd),m.1=(k:Int)∧k<l.length∧S.ok∧l.drop k=S.row++r∧S.hd=l.getD k default∧(m.2=2∨m.2=3→S.hd.1=6):=by
 obtain ⟨hs,t,k,ht,hm,hk,hkw,hw,hin⟩:=ysv h
 obtain ⟨hok,hrow⟩:=zht.1 ht
 obtain ⟨S,r,h1,h2⟩:=qxi t k hok (by rw [←T.zab,←hrow];exact hk)
 rw [←hrow] at h2
 have hd:S.hd=l.getD k default:=by
  have h3:l[k]? =some S.hd:=by
   rw [←List.head?_drop,h2]
   cases S<;>rfl
  rw [List.getD_eq_getElem?_getD,h3];rfl
 refine ⟨k,S,r,hm,hk,h1,h2,hd,fun h23=> ?_⟩
 rw [hd]
 unfold zit at hin
 split at hin
 ·simp at hin;subst hin;simp at h23
 ·split at hin
  ·assumption
  ·simp only [List.mem_cons] at hin
   rcases hin with hin|hin
   ·subst hin;simp at h23
   ·split at hin
    ·simp at hin;subst hin;simp at h23
    ·cases hin
theorem qdv [Dfr] {S:T} {r:List Nd} (h:S.ok) (h6:S.hd.1=6):(zgf (S.row++r)).length=2:=by
 unfold zgf
 rw [qio h]
 cases S with
 |n0 n=>have:=ar0 h;simp only [T.hd] at h6;omega
 |n1 n a=>have:=ar1 h.1;simp only [T.hd] at h6;omega
 |n2 n a b=>rfl
noncomputable def zds (l:List Nd) (m:Mv):List Nd×ByteArray×Int :=
 if m∈enL l then (zbw (putR l m.1 (znq (l.drop m.1.toNat) m.2)),(ix (l.drop m.1.toNat) 0).2.1,0) else ([],⟨#[]⟩,120)
theorem qyd [Dfr] (l:List Nd) (how:Int) (h2:how=2∨how=3→(zgf l).length=2):(znq l how).length≤l.length+2:=by
 obtain ⟨k1,k2⟩:=qhf l
 unfold znq
 split
 ·rename_i h
  have:=ygf l 0 (by rw [h2 (.inl h)];rfl)
  omega
 ·split
  ·rename_i h
   have:=ygf l 1 (by rw [h2 (.inr h)];rfl)
   omega
  ·split
   ·split<;>simp
   ·split
    ·rw [List.length_cons];omega
    ·simp
theorem zwg [Dfr] [zcd] [zdz] [zjx] (l:List Nd) (m:Mv) (hl:l.length≤400000):zmo l m=some (zds l m):=by
 rw [qqf,yfn l m (by omega),Option.bind_some]
 unfold zds
 by_cases hm:m∈enL l
 ·rw [decide_eq_true hm,if_pos hm]
  obtain ⟨k,S,r,h1,h2,h3,h4,h5,h6⟩:=yqf hm
  have hk2:m.2=2∨m.2=3→(zgf (l.drop k)).length=2:=fun h=>by rw [h4];exact qdv h3 (h6 h)
  have hc:cut l (k:Int) (l.length:Int)=l.drop k:=by rw [ztv];simp
  have hdl:(l.drop k).length=l.length-k:=List.length_drop
  have hne:l.drop k≠[]:=fun h=>by rw [h] at hdl;simp at hdl;omega
  have hml:=qyd (l.drop k) m.2 hk2
  have hpl:=qxv l (k:Int) (znq (l.drop k) m.2)
  rw [h1,Int.toNat_natCast,znj (by omega) (Nat.le_refl _),hc]
  simp only [Bool.not_true,cond_false,cond_true,qtz (l.drop k) m.2 (by omega) hne hk2,Option.bind_some,qze l (k:Int) _ (show l.length≤1000000 by omega) (show (znq (l.drop k) m.2).length≤1000000 by omega),
   zst _ (show (putR l (k:Int) (znq (l.drop k) m.2)).length≤4611686018427387904 by omega),show zaa 0 (l.drop k).length=true from zeu (by omega)]
 ·rw [decide_eq_false hm,if_neg hm];rfl
end Go.Proofs.YtjolkdjkhekbnaaGreatDoor.Sv
