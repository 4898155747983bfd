/- step.Put: its contract. -/
import Derived.Test.YtjolkdjkhekbnaaGreatDoorL10
set_option linter.unusedVariables false
set_option linter.unusedSimpArgs false
namespace Go.Proofs.YtjolkdjkhekbnaaGreatDoor.Sv
open Go Go.Sv Go.Proofs Go.Rd Go.RowKit
set_option maxRecDepth 100000
theorem xdj [Dfr] (l:List Nd):sz l≤l.length:=by
 unfold sz;cases h:P l with
 |none=>simp
 |some q=>obtain ⟨t,r⟩:=q;have e:=(xir.1 h).2;rw [e,List.length_append,T.zab];simp
def putR (l:List Nd) (k:Int) (x:List Nd):List Nd:=
 if 0≤k∧k<(l.length:Int)∧0<sz (l.drop k.toNat) then l.take k.toNat++x++l.drop (k.toNat+sz (l.drop k.toNat)) else l
def qdn (l:List Nd) (k:Int) (x:List Nd):Option (List Nd):=if l.length≤1000000∧x.length≤1000000 then some (putR l k x) else none
class zlf [Dfr]:Prop where
 put:∀l k x,zrl l k x=qdn l k x
theorem yuk [Dfr] [zfm] (w:World) (F:Nat→Prop) (l x:List Nd) (k:Int) (s0 s2:Option Addr) (c0 c2:Nat) (hF:∀b,F b→b<w.heap.size) (hg:zfe E F w)
 (hl:Cl F w (.slice 68 NdY) l [.slice s0 l.length c0]) (hx:Cl F w (.slice 68 NdY) x [.slice s2 x.length c2]) (hll:l.length≤1000000) (hxl:x.length≤1000000):
 Calls Tryz.prog 72 #[.slice s0 l.length c0,.int .i64 k,.slice s2 x.length c2] w (yik F w (putR l k x)):=by
 unfold putR;by_cases h0:k<0
 ·rw [if_neg (by omega)];exact ykf w F l s0 s2 c0 c2 x.length k hl h0 hll
 ·obtain ⟨j,rfl⟩:=Int.eq_ofNat_of_zero_le (a:=k) (by omega);by_cases h1:j<l.length
  ·have hd:(l.drop j).length≤1000000:=by rw [List.length_drop];omega
   have hsz:=zow (l.drop j) (by omega);have hle:=xdj (l.drop j);rw [List.length_drop] at hle;by_cases h2:0<sz (l.drop j)
   ·rw [if_pos ⟨by omega,by omega,by simpa using h2⟩];exact yqa w F l x s0 s2 c0 c2 j (sz (l.drop j)) hF hg hl hx h1 hsz h2 (by omega) hll hxl
   ·rw [if_neg (fun h=>h2 (by simpa using h.2.2))];have:sz (l.drop j)=0:=by omega
    rw [this] at hsz;exact yke w F l s0 s2 c0 c2 x.length j hF hg hl h1 hsz hll
  ·rw [if_neg (by omega)];exact ykg w F l s0 s2 c0 c2 x.length (j:Int) hl (by omega) hll
theorem qmy [Dfr] [zfm] (l:List Nd) (k:Int) (x:List Nd) (r:List Nd) (h:qdn l k x=some r):zdw Tryz.prog E 72 (l,k,x) r:=by
 unfold qdn at h;split at h
 ·rename_i hc;obtain ⟨hll,hxl⟩:=hc;cases h;intro w F0 G A vs hA;obtain ⟨v0,v1,v2,rfl,h0,h1,h2⟩:∃v0 v1 v2,vs=[v0,v1,v2]∧Cl (A.F F0) w (.slice 68 NdY) l [v0]∧v1= .int .i64 k∧Cl (A.F F0) w (.slice 68 NdY) x [v2]:=by
   have hr:=hA.rel;cases hr with
   |cons a hr=>cases hr with
    |cons b hr=>cases hr with
     |cons c hr=>cases hr;exact ⟨_,_,_,rfl,a,b,c⟩
  subst h1;have shape:∀{y:List Nd} {v:Value},Cl (A.F F0) w (.slice 68 NdY) y [v]→∃s c,v= .slice s y.length c:=fun h=>by rw [Cl] at h;obtain ⟨a,c,e,_⟩:=h;exact ⟨a,c,(List.cons.inj e).1⟩
  obtain ⟨s0,c0,rfl⟩:=shape h0;obtain ⟨s2,c2,rfl⟩:=shape h2;have hF:∀b,A.F F0 b→b<w.heap.size:=fun b hb=>by
   rcases hb with hb|⟨d,hb⟩|⟨n,l,hb⟩
   ·exact (hA.f0 b hb).1
   ·rw [hA.bx] at hb;cases hb
   ·exact (hA.tgm n b l hb).2
  refine (yuk w (A.F F0) l x k s0 s2 c0 c2 hF hA.glob h0 h2 hll hxl).mono ?_;rintro e w' ⟨g,cur,rfl,hk,hg,hh,hE⟩;have hgl:g<w'.heap.size:=(Array.getElem?_eq_some_iff.1 hh).1;refine ⟨_,rfl,⟨hk.os,hk.tape,hk.output,hk.size,fun b hb _=>hk.block b hb (fun h=>h),hk.drawn⟩,fun d=>⟨⟨fun _=>none,fun n=>if n=zcc d 0 0 then some (g,(putR l k x).length) else none⟩,?_,fun _=>rfl,fun n b l h=> ?_,fun n n' b l l' h h'=> ?_⟩⟩
  ·have S:Step (A.F F0) (Fr.F ⟨fun _=>none,fun n=>if n=zcc d 0 0 then some (g,(putR l k x).length) else none⟩ F0) w w':=by
    refine ⟨fun b hb hlt=>hk.block b hlt (fun h=>h),fun b hb=> ?_⟩;rcases hb with hb|⟨d',hb⟩|⟨n,l',hb⟩
    ·exact .inl (.inl hb)
    ·cases hb
    ·simp only at hb;split at hb
     ·cases hb;exact .inr hg
     ·cases hb
   have hlen:=hE.len;refine .inr ⟨g,(putR l k x).length,if_pos rfl,rfl,(putR l k x).length,cur,rfl,hh,Nat.le_refl _,?_,by rw [←Array.length_toList];exact hlen,fun i y hy=> ?_⟩
   ·have:(putR l k x).length≤3000000:=by
     unfold putR;split
     ·rw [List.length_append,List.length_append,List.length_take,List.length_drop];omega
     ·omega
    unfold maxLen;omega
   ·obtain ⟨ds,hd,hj⟩:=hE.el i y hy;refine ⟨ds,hd.step S,fun j u hu=> ?_⟩;have:=hj j u hu
    rwa [Array.getElem?_toList] at this
  ·simp only at h;split at h
   ·cases h;exact ⟨.inl hg,hgl⟩
   ·cases h
  ·simp only at h h';split at h
   ·split at h'
    ·rename_i e1 e2;rw [e1,e2]
    ·cases h'
   ·cases h
 ·cases h
open Go Go.Sv Go.Rd
theorem yoz [Dfr] [zlf] (l:List Nd) (k:Int) (x:List Nd) (hl:l.length≤1000000) (hx:x.length≤1000000):qzu l k x=some (putR l k x):=by rw [yiz,zlf.put,qdn,if_pos ⟨hl,hx⟩]
theorem ybv [Dfr] (l:List Nd) (k:Int) (x:List Nd):(putR l k x).length≤l.length+x.length:=by
 unfold putR;split
 ·rw [List.length_append,List.length_append,List.length_take,List.length_drop];omega
 ·omega
def zmx (l:List Nd) (how:Int):List Nd:=
 if how=2 then ix (zfl l) 0 else if how=3 then ix (zfl l) 1 else
 if how=5 then (if (ix l 0).1=10 then [(14,ByteArray.empty,3),(2,ByteArray.empty,0)] else [(11,ByteArray.empty,3)])
 else (if (ix l 0).1=10 then (12,ByteArray.empty,0)::(zfl l).flatten else [(11,ByteArray.empty,1)])
theorem qjl [Dfr] (l:List Nd):(zfl l).flatten.length≤l.length∧(zfl l).length≤2:=by
 unfold zfl;cases h:P l with
 |none=>simp
 |some q=>obtain ⟨t,r⟩:=q;have e:=(xir.1 h).2;rw [e];cases t<;>simp [T.kids,T.row]<;>omega
theorem ywa [Dfr] (l:List Nd) (i:Int) (hi:zaa i (zfl l).length=true):(ix (zfl l) i).length≤l.length:=by
 obtain ⟨h0,h1⟩:=qcn hi;obtain ⟨j,rfl⟩:=Int.eq_ofNat_of_zero_le h0;have hj:j<(zfl l).length:=by omega
 have:=(qjl l).1;rw [qfg hj];have h2:((zfl l)[j]).length≤(zfl l).flatten.length:=by exact (List.sublist_flatten_of_mem (List.getElem_mem hj)).length_le
 omega
theorem yiy [Dfr] (l:List Nd) (how:Int) (hl:l.length≤500000) (h0:l≠[]) (h2:how=2∨how=3→(zfl l).length=2):qqf l how=some (zmx l how):=by
 have hpos:0<l.length:=List.length_pos_iff.2 h0;obtain ⟨k1,k2⟩:=qjl l;have hm1:∀x y:List Nd,zxz x y l=some (if (ix l 0).1=10 then y else x):=fun x y=>by
  rw [qvd,show zaa 0 l.length=true from zax hpos];by_cases e:(ix l 0).1=10
  ·rw [if_pos e,show ((ix l 0).1==10)=true by rw [e];rfl];rfl
  ·rw [if_neg e,show ((ix l 0).1==10)=false by rw [beq_eq_false_iff_ne];exact e];rfl
 rw [yee,zjq l (by omega)];unfold zmx;simp only [Option.bind_some,yeg,hm1];have hmk:zcf (14,ByteArray.empty,3) [[(2,ByteArray.empty,0)]]=some [(14,ByteArray.empty,3),(2,ByteArray.empty,0)]:=qdi _ _ (by decide) (by decide);have hmk2:zcf (12,ByteArray.empty,0) (zfl l)=some ((12,ByteArray.empty,0)::(zfl l).flatten):=qdi _ _ (by rw [zvd];omega) (by omega);by_cases e2:how=2
 ·subst e2;have:=h2 (.inl rfl);rw [show ((2:Int)==2)=true from rfl,if_pos rfl,cond_true,this];rfl
 by_cases e3:how=3
 ·subst e3;have:=h2 (.inr rfl);rw [if_neg e2,if_pos rfl,this];rfl
 by_cases e5:how=5
 ·subst e5;rw [if_neg e2,if_neg e3,if_pos rfl];simp only [show ((5:Int)==2)=false from rfl,show ((5:Int)==3)=false from rfl,show ((5:Int)==5)=true from rfl,cond_false,cond_true,hmk,Option.bind_some,hm1]
 ·rw [if_neg e2,if_neg e3,if_neg e5];simp only [show (how==2)=false by rw [beq_eq_false_iff_ne];exact e2,show (how==3)=false by rw [beq_eq_false_iff_ne];exact e3,show (how==5)=false by rw [beq_eq_false_iff_ne];exact e5,cond_false,hmk2,Option.bind_some,hm1]
theorem yjt [Dfr] (l:List Nd) (k:Int) (x:List Nd) (hl:l.length≤1000000) (hx:x.length≤1000000):qiq l k x=some (putR l k x):=by
 rw [yfq];unfold putR;by_cases h0:k<0
 ·rw [decide_eq_true h0,if_neg (by omega)];rfl
 ·obtain ⟨j,rfl⟩:=Int.eq_ofNat_of_zero_le (a:=k) (by omega);rw [decide_eq_false h0,cond_false];by_cases h1:j<l.length
  ·have hle:=xdj (l.drop j);rw [List.length_drop] at hle;have c1:cut l (j:Int) (l.length:Int)=l.drop j:=by rw [zrb];simp
   have c2:cut l 0 (j:Int)=l.take j:=by rw [show (0:Int)=((0:Nat):Int) from rfl,zrb];simp
   have hd:(l.drop j).length≤4611686018427387904:=by rw [List.length_drop];omega
   have ht:(l.take j).length=j:=by rw [List.length_take,Nat.min_eq_left (by omega)]
   rw [decide_eq_false (show ¬(j:Int)≥(l.length:Int) by omega),cond_false,zld (by omega) (Nat.le_refl _),c1];simp only [cond_true,qbu _ hd,Option.bind_some,Int.toNat_natCast];by_cases h2:0<sz (l.drop j)
   ·have hw:w64 ((j:Int)+(sz (l.drop j):Int))=((j+sz (l.drop j):Nat):Int):=by rw [zgz (by omega) (by omega)];omega
    have c3:cut l ((j+sz (l.drop j):Nat):Int) (l.length:Int)=l.drop (j+sz (l.drop j)):=by rw [zrb];simp
    rw [if_pos ⟨by omega,by omega,h2⟩,show ((sz (l.drop j):Int)==0)=false by rw [beq_eq_false_iff_ne];omega,cond_false,c2,hw,c3];rw [show zbe 0 (j:Int) l.length=true from zld (a:=0) (Nat.zero_le _) (by omega),zld (by omega) (Nat.le_refl _)];simp only [cond_true,List.nil_append,List.length_append,ht,List.length_drop];rw [room (show (0+j)*32≤140737488355328 by omega),room (show (j+x.length)*32≤140737488355328 by omega),room (show (j+x.length+(l.length-(j+sz (l.drop j))))*32≤140737488355328 by omega)];rfl
   ·rw [if_neg (fun h=>h2 h.2.2),show ((sz (l.drop j):Int)==0)=true by rw [show sz (l.drop j)=0 by omega];rfl];rfl
  ·rw [decide_eq_true (show (j:Int)≥(l.length:Int) by omega),if_neg (by omega)];rfl
theorem ymr [Dfr]:∀(t:T) (k:Nat),t.ok→k<t.size→∃(S:T) (r:List Nd),S.ok∧t.row.drop k=S.row++r
 | .n0 n,0,h,_=>⟨.n0 n,[],h,by simp⟩
 | .n1 n a,0,h,_=>⟨.n1 n a,[],h,by simp⟩
 | .n2 n a b,0,h,_=>⟨.n2 n a b,[],h,by simp⟩
 | .n0 n,k+1,h,hk=>by simp only [T.size] at hk;omega
 | .n1 n a,k+1,h,hk=>by simp only [T.size] at hk;obtain ⟨S,r,h1,h2⟩:=ymr a k h.2 (by omega);exact ⟨S,r,h1,h2⟩
 | .n2 n a b,k+1,h,hk=>by
   simp only [T.size] at hk;by_cases hl:k<a.size
   ·obtain ⟨S,r,h1,h2⟩:=ymr a k h.2.1 hl;refine ⟨S,r++b.row,h1,?_⟩;show (a.row++b.row).drop k=_;rw [List.drop_append_of_le_length (by rw [T.zab];omega),h2,List.append_assoc]
   ·obtain ⟨S,r,h1,h2⟩:=ymr b (k-a.size) h.2.2 (by omega);refine ⟨S,r,h1,?_⟩;show (a.row++b.row).drop k=_;rw [show k=a.row.length+(k-a.size) by rw [T.zab];omega,←List.drop_drop,List.drop_left,h2]
theorem xct [Dfr] {l:List Nd} {m:Mv} (h:m∈enL l):setL l∧∃(t:T) (k:Nat),tree l=some t∧m.1=(k:Int)∧k<l.length∧k∈t.wts 0∧zcw (l.getD k default).1=true∧m∈zjm (l.getD k default).1 (k:Int) (qej t k):=by
 by_cases hs:setL l
 ·obtain ⟨n,_,_,_,_,_,_,ht⟩:=qdf hs;rw [qjw ht hs] at h;obtain ⟨k,hk,hm⟩:=List.mem_flatMap.1 h;obtain ⟨h1,h2⟩:=yml ht hk;exact ⟨hs,n.t,k,ht,yvj.1 _ hm,h1,hk,h2,hm⟩
 ·rw [yhr hs] at h;cases h
theorem ywr [Dfr] {l:List Nd} {m:Mv} (h:m∈enL l):∃(k:Nat) (S:T) (r:List Nd),m.1=(k:Int)∧k<l.length∧S.ok∧l.drop k=S.row++r∧S.hd=l.getD k default∧(m.2=2∨m.2=3→S.hd.1=6):=by
 obtain ⟨hs,t,k,ht,hm,hk,hkw,hw,hin⟩:=xct h;obtain ⟨hok,hrow⟩:=zht.1 ht;obtain ⟨S,r,h1,h2⟩:=ymr t k hok (by rw [←T.zab,←hrow];exact hk);rw [←hrow] at h2;have hd:S.hd=l.getD k default:=by
  have h3:l[k]? =some S.hd:=by rw [←List.head?_drop,h2];cases S<;>rfl
  rw [List.getD_eq_getElem?_getD,h3];rfl
 refine ⟨k,S,r,hm,hk,h1,h2,hd,fun h23=> ?_⟩;rw [hd];unfold zjm at hin;split at hin
 ·simp at hin;subst hin;simp at h23
 ·split at hin
  ·assumption
  ·simp only [List.mem_cons] at hin;rcases hin with hin|hin
   ·subst hin;simp at h23
   ·split at hin
    ·simp at hin;subst hin;simp at h23
    ·cases hin
theorem qjk [Dfr] {S:T} {r:List Nd} (h:S.ok) (h6:S.hd.1=6):(zfl (S.row++r)).length=2:=by
 unfold zfl;rw [qem h];cases S with
 |n0 n=>have:=ar0 h;simp only [T.hd] at h6;omega
 |n1 n a=>have:=ar1 h.1;simp only [T.hd] at h6;omega
 |n2 n a b=>rfl
noncomputable def zge (l:List Nd) (m:Mv):List Nd×ByteArray×Int:=
 if m∈enL l then (zbp (putR l m.1 (zmx (l.drop m.1.toNat) m.2)),(ix (l.drop m.1.toNat) 0).2.1,0) else ([],⟨#[]⟩,120)
theorem ycj [Dfr] (l:List Nd) (how:Int) (h2:how=2∨how=3→(zfl l).length=2):(zmx l how).length≤l.length+2:=by
 obtain ⟨k1,k2⟩:=qjl l;unfold zmx;split
 ·rename_i h;have:=ywa l 0 (by rw [h2 (.inl h)];rfl);omega
 ·split
  ·rename_i h;have:=ywa l 1 (by rw [h2 (.inr h)];rfl);omega
  ·split
   ·split<;>simp
   ·split
    ·rw [List.length_cons];omega
    ·simp
theorem qfw [Dfr] [zda] [zew] [zlf] (l:List Nd) (m:Mv) (hl:l.length≤400000):zsq l m=some (zge l m):=by
 rw [yeh,yvk l m (by omega),Option.bind_some];unfold zge;by_cases hm:m∈enL l
 ·rw [decide_eq_true hm,if_pos hm];obtain ⟨k,S,r,h1,h2,h3,h4,h5,h6⟩:=ywr hm;have hk2:m.2=2∨m.2=3→(zfl (l.drop k)).length=2:=fun h=>by rw [h4];exact qjk h3 (h6 h)
  have hc:cut l (k:Int) (l.length:Int)=l.drop k:=by rw [zrb];simp
  have hdl:(l.drop k).length=l.length-k:=List.length_drop;have hne:l.drop k≠[]:=fun h=>by rw [h] at hdl;simp at hdl;omega
  have hml:=ycj (l.drop k) m.2 hk2;have hpl:=ybv l (k:Int) (zmx (l.drop k) m.2);rw [h1,Int.toNat_natCast,zld (by omega) (Nat.le_refl _),hc];simp only [Bool.not_true,cond_false,cond_true,yiy (l.drop k) m.2 (by omega) hne hk2,Option.bind_some,yoz l (k:Int) _ (show l.length≤1000000 by omega) (show (zmx (l.drop k) m.2).length≤1000000 by omega),
   zta _ (show (putR l (k:Int) (zmx (l.drop k) m.2)).length≤4611686018427387904 by omega),show zaa 0 (l.drop k).length=true from zax (by omega)]
 ·rw [decide_eq_false hm,if_neg hm];rfl
theorem zoy [Dfr] (l:List Nd) (xs:List Int) (hx:xs.length≤1000000) (fr:Int→Bool) (hk:∀x∈xs,zaa x l.length=true∧qdm l x=some (fr x)):∀(r:List Int) (i:Nat) (acc:List Mv),xs.drop i=r→acc.length≤2*i→
 zgd l acc xs (i:Int)=some (0,acc++r.flatMap fun x=>zjm (ix l x).1 x (fr x))
 |[],i,acc,h,ha=>by obtain ⟨h1,h2⟩:=drop_nil h;rw [ztb];simp only [h2,cond_false];simp
 |x::r,i,acc,h,ha=>by
  obtain ⟨h1,h2,h3,h4,h5,h6⟩:=zae h;obtain ⟨k1,k3⟩:=hk x (List.mem_of_mem_drop (by rw [h];exact List.mem_cons_self ..));have ih:=fun acc ha=>zoy l xs hx fr hk r (i+1) acc h5 ha
  rw [ztb];simp only [h2,h3,h4,cond_true,k1,zbj (show i<9223372036854775807 by omega),room (show (acc.length+1)*16≤140737488355328 by omega),room (show (acc.length+2)*16≤140737488355328 by omega),k3,Option.bind_some];rw [List.flatMap_cons];by_cases e1:(ix l x).1=1
  ·rw [show ((ix l x).1==1)=true by rw [e1];rfl,cond_true,ih _ (by simp;omega)];simp [zjm,e1]
  ·rw [show ((ix l x).1==1)=false by rw [beq_eq_false_iff_ne];exact e1,cond_false];by_cases e6:(ix l x).1=6
   ·rw [show ((ix l x).1==6)=true by rw [e6];rfl,cond_true,ih _ (by simp;omega)];simp [zjm,e6]
   ·rw [show ((ix l x).1==6)=false by rw [beq_eq_false_iff_ne];exact e6,cond_false];cases hf:fr x with
    |true=>rw [cond_true,room (show ((acc++[(x,(4:Int))]).length+1)*16≤140737488355328 by rw [List.length_append];simp;omega),cond_true,ih _ (by simp;omega)];simp [zjm,e1,e6]
    |false=>rw [cond_false,ih _ (by simp;omega)];simp [zjm,e1,e6]
theorem qac [Dfr] (l:List Nd) (hl:l.length≤1000000) (hn:∀n∈l,n.2.1.size≤9223372036854775807):zrs l=some (enL l):=by
 by_cases hs:setL l
 ·obtain ⟨m,hm,_,_,_,_,_,ht⟩:=qdf hs;obtain ⟨hok,hrow⟩:=zht.1 ht;have hlen:l.length=m.t.size:=by rw [hrow,T.zab]
  have hw:=qhn m.t;have e:=zoy l ((m.t.wts 0).map fun (k:Nat)=>(k:Int)) (by rw [List.length_map];omega) (fun x=>qej m.t x.toNat) (fun x hx=>by obtain ⟨k1,k2,_⟩:=ymk ht hx;obtain ⟨k,hk,rfl⟩:=List.mem_map.1 hx;exact ⟨k1,ybg ht hl hn (yqe ht hn) hs hk⟩) _ 0 [] rfl (by simp);rw [Int.natCast_zero] at e;rw [qab,qex ht hl hn hs,Option.bind_some,e,Option.bind_some,List.nil_append,qjw ht hs]
  congr 1
  show List.flatMap _ (List.drop 0 _)=_;unfold mvsT;rw [List.drop_zero,List.flatMap_map,List.flatMap_def,List.flatMap_def];refine congrArg List.flatten (List.map_congr_left fun k hk=> ?_);rw [(ymk ht (List.mem_map.2 ⟨k,hk,rfl⟩)).2.2];rfl
 ·have e:=zoy l [] (by simp) (fun _=>false) (fun x hx=>by cases hx) [] 0 [] rfl (by simp);rw [Int.natCast_zero] at e;rw [qab,qru hl hn hs,Option.bind_some,e,yhr hs];rfl
theorem qmv [Dfr] (xs:List Mv) (x:Mv) (b:Bool) (hx:xs.length≤1000000):∀(r:List Mv) (i:Nat),xs.drop i=r→zyu x b xs (i:Int)=some (if x∈r then (1,true) else (0,b))
 |[],i,h=>by obtain ⟨h1,h2⟩:=drop_nil h;rw [qet];simp only [h2,cond_false];simp
 |y::r,i,h=>by
  obtain ⟨h1,h2,h3,h4,h5,h6⟩:=zae h;rw [qet];simp only [h2,h3,h4,cond_true,xhr,zbj (show i<9223372036854775807 by omega),qmv xs x b hx r (i+1) h5];by_cases e:y=x
  ·subst e;simp
  ·rw [decide_eq_false e];simp [show ¬x=y from fun h=>e h.symm]
theorem ypw [Dfr] (l:List Nd) (m:Mv) (hl:l.length≤1000000) (hn:∀n∈l,n.2.1.size≤9223372036854775807):ybc l m=some (decide (m∈enL l)):=by have h:=qlx l;have e:=qmv (enL l) m false (by omega) (enL l) 0 rfl;rw [Int.natCast_zero] at e;rw [yju,qac l hl hn,Option.bind_some,e,Option.bind_some];by_cases h:m∈enL l<;>simp [h,Nat.beq]
theorem yfs [Dfr] (l:List Nd) (n:Int) (hl:l.length≤1000000) (hn:∀n∈l,n.2.1.size≤9223372036854775807):qla l n=some (zhj (enL l) n):=by have h:=qlx l;rw [ybb,qac l hl hn,Option.bind_some];exact ygm _ _ (by omega)
end Go.Proofs.YtjolkdjkhekbnaaGreatDoor.Sv
namespace Go.Rd
open Go Go.Sv
namespace Tm
def Wt (u:Tm):Prop:=(∃s,u=act s)∨(∃a b,u=alt a b)∨u=yield∨∃a b,u=pair a b
end Tm
end Go.Rd
namespace Go.Proofs.YtjolkdjkhekbnaaGreatDoor.Sv
open Go Go.Sv Go.Rd
def cntW (l:List Nd):Nat:=l.countP fun n=>zcw n.1
def wW (n:Nd):Nat:=if zcw n.1=true then 1 else 0
theorem qpk [Dfr] (l:List Nd):cntW l=(l.map wW).sum:=by
 induction l with
 |nil=>rfl
 |cons n r ih=>unfold cntW at ih ⊢;rw [List.countP_cons,List.map_cons,List.sum_cons,←ih];exact Nat.add_comm _ _
theorem qpl [Dfr] (a b:List Nd):cntW (a++b)=cntW a+cntW b:=List.countP_append
theorem qke [Dfr] (n:Nd) (l:List Nd):cntW (n::l)=wW n+cntW l:=by rw [qpk,qpk,List.map_cons,List.sum_cons]
theorem xcc [Dfr]:Tm.Light wW:=⟨rfl,fun _=>rfl,fun _=>rfl,rfl,rfl⟩
theorem qub [Dfr] (x:List Nd):cntW (zbp x)≤cntW x:=by
 rcases zyn x with h|⟨m,rfl,_,_,_,h,_⟩
 ·rw [h];exact Nat.zero_le _
 ·rw [h,qpk,qpk];exact Tm.xfu wW xcc m
theorem yvp [Dfr] {S:T} {r:List Nd} {how:Int} (h:S.ok) (hw:zcw S.hd.1=true) (h6:how=2∨how=3→S.hd.1=6):cntW (zmx (S.row++r) how)<cntW S.row:=by
 have hk:zfl (S.row++r)=S.kids.map T.row:=by unfold zfl;rw [qem h]
 have hx:ix (S.row++r) 0=S.hd:=by cases S<;>rfl
 have hS:cntW S.row=1+cntW (zfl (S.row++r)).flatten:=by
  have w1:wW S.hd=1:=by unfold wW;rw [if_pos hw]
  rw [hk];cases S with
  |n0 n=>rw [show (T.n0 n).row=[n] from rfl,qke,show wW n=1 from w1];rfl
  |n1 n a=>rw [show (T.n1 n a).row=n::a.row from rfl,qke,show wW n=1 from w1];simp [T.kids]
  |n2 n a b=>rw [show (T.n2 n a b).row=n::(a.row++b.row) from rfl,qke,show wW n=1 from w1];simp [T.kids]
 have hpart:∀i:Nat,i<(zfl (S.row++r)).length→cntW (ix (zfl (S.row++r)) (i:Int))≤cntW (zfl (S.row++r)).flatten:=fun i hi=>by rw [qfg hi];exact (List.sublist_flatten_of_mem (List.getElem_mem hi)).countP_le
 unfold zmx;split
 ·rename_i h2;have:=hpart 0 (by rw [qjk h (h6 (.inl h2))];omega);rw [Int.natCast_zero] at this;omega
 ·split
  ·rename_i h3;have:=hpart 1 (by rw [qjk h (h6 (.inr h3))];omega);have e:((1:Nat):Int)=1:=rfl;rw [e] at this;omega
  ·split
   ·split
    ·rw [show cntW [(14,ByteArray.empty,3),(2,ByteArray.empty,0)]=0 from rfl];omega
    ·rw [show cntW [(11,ByteArray.empty,3)]=0 from rfl];omega
   ·split
    ·rw [qke,show wW (12,ByteArray.empty,0)=0 from rfl];omega
    ·rw [show cntW [(11,ByteArray.empty,1)]=0 from rfl];omega
theorem qsm [Dfr] {l:List Nd} {m:Mv} (hm:m∈enL l):(zge l m).2.2=0∧cntW (zge l m).1<cntW l∧(zge l m).1.length≤1000000∧(decide ((zge l m).2.1=⟨#[]⟩)= !decide (m.2=1)):=by
 obtain ⟨hs,t,k0,ht,hm1,hk0,hkw,hw,hin⟩:=xct hm;obtain ⟨k,S,r,h1,h2,h3,h4,h5,h6⟩:=ywr hm;obtain rfl:k0=k:=by omega
 obtain ⟨n,hn,hfi,hz,_,_,_,_⟩:=qdf hs;have hlen:l.length≤200:=by rw [hn,Tm.zab];exact hz
 have hmade:=yvp (r:=r) (how:=m.2) h3 (by rw [h5];exact hw) h6;rw [←h4] at hmade;have hml:=ycj (l.drop k0) m.2 (fun h=>by rw [h4];exact qjk h3 (h6 h));have hpl:=ybv l m.1 (zmx (l.drop k0) m.2);have hdl:(l.drop k0).length=l.length-k0:=List.length_drop;have hset:=qgb (putR l m.1 (zmx (l.drop k0) m.2));have hput:cntW (putR l m.1 (zmx (l.drop k0) m.2))<cntW l:=by
  have hsz:sz (l.drop k0)=S.size:=by unfold sz;rw [h4,qem h3]
  have hpos:=T.zww S;unfold putR;rw [if_pos ⟨by omega,by omega,by rw [h1,Int.toNat_natCast,hsz];omega⟩,h1,Int.toNat_natCast,hsz,qpl,qpl];have e:l=l.take k0++(S.row++r):=by rw [←h4,List.take_append_drop]
  have e2:l.drop (k0+S.size)=r:=by rw [←List.drop_drop,h4,←T.zab S,List.drop_left]
  have e3:cntW l=cntW (l.take k0)+(cntW S.row+cntW r):=by
   conv=>lhs;rw [e]
   rw [qpl,qpl]
  rw [e2,e3];omega
 unfold zge;rw [if_pos hm,h1,Int.toNat_natCast,←h1];refine ⟨rfl,Nat.lt_of_le_of_lt (qub _) hput,by show (zbp (putR l m.1 (zmx (l.drop k0) m.2))).length≤1000000;omega,?_⟩;have hx:ix (l.drop k0) 0=l.getD k0 default:=by rw [h4,←h5];cases S<;>rfl
 have hr:right (l.getD k0 default)=true:=by refine zlh hfi _ ?_;rw [←hn,List.getD_eq_getElem?_getD,List.getElem?_eq_getElem hk0];exact List.getElem_mem hk0
 show decide ((ix (l.drop k0) 0).2.1=⟨#[]⟩)=_;rw [hx];generalize l.getD k0 default=q at hr hw hin;have hq:q.1=1∨q.1=6∨q.1=4∨q.1=10:=by unfold zcw at hw;exact of_decide_eq_true hw
 have hm2:m.2=1↔q.1=1:=by
  unfold zjm at hin;constructor
  ·intro h;by_cases e:q.1=1
   ·exact e
   ·rw [if_neg e] at hin;split at hin
    ·simp only [List.mem_cons,List.not_mem_nil,or_false] at hin;rcases hin with hin|hin<;>rw [hin] at h<;>simp at h
    ·simp only [List.mem_cons] at hin;rcases hin with hin|hin
     ·rw [hin] at h;simp at h
     ·split at hin
      ·simp at hin;rw [hin] at h;simp at h
      ·cases hin
  ·intro e;rw [if_pos e] at hin;simp at hin;rw [hin]
 by_cases e:q.1=1
 ·rw [decide_eq_true (hm2.2 e)];unfold right at hr;rw [if_pos e] at hr;simp only [Bool.and_eq_true,qoa,decide_eq_true_eq] at hr;refine decide_eq_false fun h=> ?_
  rw [h] at hr;exact absurd hr.1.1 (by decide)
 ·rw [decide_eq_false (fun h=>e (hm2.1 h))];unfold right at hr;rw [if_neg e,if_neg (by omega)] at hr;simp only [Bool.and_eq_true,decide_eq_true_eq] at hr;exact decide_eq_true hr.2.1
theorem yfp [Dfr] (l:List Nd) (how:Int) (hl:l.length≤500000) (h0:l≠[]) (h2:how=2∨how=3→(zfl l).length=2) (h10:(ix l 0).1=10→(zfl l).length=2∧(how=4∨how=5)):qdj l how=some (zmx l how):=by
 have hpos:0<l.length:=List.length_pos_iff.2 h0;have hix:zaa 0 l.length=true:=zax hpos;rw [yay,zkq l (by omega)];unfold zmx;simp only [Option.bind_some,yaz];by_cases e2:how=2
 ·subst e2;have:=h2 (.inl rfl);rw [show ((2:Int)==2)=true from rfl,if_pos rfl,cond_true,this];rfl
 by_cases e3:how=3
 ·subst e3;have:=h2 (.inr rfl);rw [if_neg e2,if_pos rfl,this];rfl
 rw [if_neg e2,if_neg e3];simp only [show (how==2)=false by rw [beq_eq_false_iff_ne];exact e2,show (how==3)=false by rw [beq_eq_false_iff_ne];exact e3,cond_false,hix,cond_true];have hone:zjl (14,ByteArray.empty,3) [(2,ByteArray.empty,0)]=some [(14,ByteArray.empty,3),(2,ByteArray.empty,0)]:=zzb _ _ (by decide);by_cases e10:(ix l 0).1=10
 ·obtain ⟨hk,h45⟩:=h10 e10;obtain ⟨a,b,hab⟩:∃a b,zfl l=[a,b]:=by
   match h:zfl l,hk with
   |[a,b],_=>exact ⟨a,b,rfl⟩
  have hfl:=(qjl l).1;rw [hab] at hfl;simp only [List.flatten_cons,List.flatten_nil,List.append_nil,List.length_append] at hfl;rw [show ((ix l 0).1==10)=true by rw [e10];rfl,if_pos e10,if_pos e10,hab];rcases h45 with rfl|rfl
  ·rw [if_neg (by decide)];have:zbo (12,ByteArray.empty,0) (ix [a,b] 0) (ix [a,b] 1)=some ((12,ByteArray.empty,0)::(a++b)):=qry _ _ _ (by show a.length≤_;omega) (by show b.length≤_;omega);rw [show ((4:Int)==4)=true from rfl];simp only [cond_true,show zaa 0 [a,b].length=true from rfl,show zaa 1 [a,b].length=true from rfl,this,Option.bind_some];simp
  ·rw [if_pos rfl,show ((5:Int)==4)=false from rfl,show ((5:Int)==5)=true from rfl];simp only [cond_true,cond_false,hone,Option.bind_some]
 ·rw [show ((ix l 0).1==10)=false by rw [beq_eq_false_iff_ne];exact e10,if_neg e10,if_neg e10];by_cases e5:how=5
  ·subst e5;rw [if_pos rfl];rfl
  ·rw [if_neg e5,show (how==5)=false by rw [beq_eq_false_iff_ne];exact e5];cases (how==4)<;>rfl
theorem yql [Dfr] {l:List Nd} {how:Int} (hn:∀n∈l,n.2.1.size≤9223372036854775807) (h2:how=2∨how=3→(zfl l).length=2):∀n∈zmx l how,n.2.1.size≤9223372036854775807:=by
 have hk:∀n∈(zfl l).flatten,n∈l:=fun n h=>by
  unfold zfl at h;cases hp:P l with
  |none=>rw [hp] at h;cases h
  |some q=>
   obtain ⟨t,r⟩:=q;rw [hp] at h;rw [(xir.1 hp).2];refine List.mem_append_left _ ?_;cases t with
   |n0 n'=>simp [T.kids] at h
   |n1 n' a=>simp [T.kids,T.row] at h ⊢;exact .inr h
   |n2 n' a b=>simp [T.kids,T.row] at h ⊢;exact .inr h
 have hi:∀i:Nat,i<(zfl l).length→∀n∈ix (zfl l) (i:Int),n∈l:=fun i hi n h=>hk n (by rw [qfg hi] at h;exact List.mem_flatten.2 ⟨_,List.getElem_mem hi,h⟩)
 intro n h;unfold zmx at h;split at h
 ·rename_i e;exact hn n (hi 0 (by rw [h2 (.inl e)];omega) n h)
 ·split at h
  ·rename_i e;exact hn n (hi 1 (by rw [h2 (.inr e)];omega) n h)
  ·split at h
   ·split at h
    ·rcases List.mem_cons.1 h with h|h
     ·rw [h];decide
     ·rw [List.mem_singleton.1 h];decide
    ·rw [List.mem_singleton.1 h];decide
   ·split at h
    ·rcases List.mem_cons.1 h with h|h
     ·rw [h];decide
     ·exact hn n (hk n h)
    ·rw [List.mem_singleton.1 h];decide
theorem yfr [Dfr] [zda] [zew] [zlf] (l:List Nd) (m:Mv) (hl:l.length≤400000) (hn:∀n∈l,n.2.1.size≤9223372036854775807):qkz l m=some (zge l m):=by
 rw [yba,ypw l m (by omega) hn,Option.bind_some];by_cases hm:m∈enL l
 ·obtain ⟨z1,_,_,z4⟩:=qsm hm;obtain ⟨hs,t,k0,ht,hm1,hk0,hkw,hw,hin⟩:=xct hm;obtain ⟨k,S,r,h1,h2,h3,h4,h5,h6⟩:=ywr hm;obtain rfl:k0=k:=by omega
  have hk2:m.2=2∨m.2=3→(zfl (l.drop k0)).length=2:=fun h=>by rw [h4];exact qjk h3 (h6 h)
  have hx:ix (l.drop k0) 0=l.getD k0 default:=by rw [h4,←h5];cases S<;>rfl
  have hxl:ix l (k0:Int)=l.getD k0 default:=by rw [qfg hk0,List.getD_eq_getElem?_getD,List.getElem?_eq_getElem hk0];rfl
  have h10:(ix (l.drop k0) 0).1=10→(zfl (l.drop k0)).length=2∧(m.2=4∨m.2=5):=fun h=>by
   rw [hx] at h;refine ⟨?_,?_⟩
   ·rw [h4];unfold zfl;rw [qem h3];rw [←h5] at h;cases S with
    |n0 n=>have:=ar0 h3;simp only [T.hd] at h;omega
    |n1 n a=>have:=ar1 h3.1;simp only [T.hd] at h;omega
    |n2 n a b=>rfl
   ·unfold zjm at hin;rw [if_neg (by omega),if_neg (by omega)] at hin;rcases List.mem_cons.1 hin with hin|hin
    ·left;rw [hin]
    ·split at hin
     ·right;simp at hin;rw [hin]
     ·cases hin
  have hc:cut l (k0:Int) (l.length:Int)=l.drop k0:=by rw [zrb];simp
  have hdl:(l.drop k0).length=l.length-k0:=List.length_drop;have hne:l.drop k0≠[]:=fun h=>by rw [h] at hdl;simp at hdl;omega
  have hml:=ycj (l.drop k0) m.2 hk2;have hpl:=ybv l (k0:Int) (zmx (l.drop k0) m.2);have hnp:∀n∈putR l (k0:Int) (zmx (l.drop k0) m.2),n.2.1.size≤9223372036854775807:=by
   have hmn:∀n∈zmx (l.drop k0) m.2,n.2.1.size≤9223372036854775807:=fun n hn'=>yql (fun q hq=>hn q (List.mem_of_mem_drop hq)) hk2 n hn'
   intro n hn';unfold putR at hn';split at hn'
   ·rcases List.mem_append.1 hn' with h|h
    ·rcases List.mem_append.1 h with h|h
     ·exact hn n (List.mem_of_mem_take h)
     ·exact hmn n h
    ·exact hn n (List.mem_of_mem_drop h)
   ·exact hn n hn'
  have hset:=zvt _ (show (putR l (k0:Int) (zmx (l.drop k0) m.2)).length≤4611686018427387904 by omega) hnp;unfold zge at z4 ⊢;rw [if_pos hm] at z4 ⊢;rw [hm1,Int.toNat_natCast] at z4;rw [decide_eq_true hm,hm1,Int.toNat_natCast];simp only [Bool.not_true,cond_false,ztl hk0,zld (show k0≤l.length by omega) (Nat.le_refl _),hc,cond_true,yfp (l.drop k0) m.2 (by omega) hne hk2 h10,Option.bind_some,yjt l (k0:Int) _ (show l.length≤1000000 by omega) (show (zmx (l.drop k0) m.2).length≤1000000 by omega),hset];by_cases e:m.2=1
  ·rw [show (m.2==1)=true by rw [e];rfl,cond_true,hxl,hx]
  ·rw [show (m.2==1)=false by rw [beq_eq_false_iff_ne];exact e,cond_false];rw [decide_eq_false e] at z4;have h7:(ix (l.drop k0) 0).2.1=⟨#[]⟩:=of_decide_eq_true (z4.trans rfl);rw [h7]
 ·rw [decide_eq_false hm];unfold zge;rw [if_neg hm];rfl
end Go.Proofs.YtjolkdjkhekbnaaGreatDoor.Sv
namespace Go.Rd
open Go Go.Sv
inductive Cx where
 |hole
 |seq (c:Cx) (b:Tm)
 |hand (c:Cx) (b:Tm)
 |going (c:Cx) (b:Tm)
 |stack (c:Cx) (b:Tm)
 |parL (c:Cx) (b:Tm)
 |parR (a:Tm) (c:Cx)
 |block (c:Cx)
namespace Cx
def fill:Cx→Tm→Tm
 |hole,x=>x
 |seq c b,x=>.seq (c.fill x) b
 |hand c b,x=>.hand (c.fill x) b
 |going c b,x=>.going (c.fill x) b
 |stack c b,x=>.stack (c.fill x) b
 |parL c b,x=>.par (c.fill x) b
 |parR a c,x=>.par a (c.fill x)
 |block c,x=>.block (c.fill x)
def pos:Cx→Nat
 |hole=>0
 |seq c _=>c.pos+1
 |hand c _=>c.pos+1
 |going c _=>c.pos+1
 |stack c _=>c.pos+1
 |parL c _=>c.pos+1
 |parR a c=>c.pos+1+a.size
 |block c=>c.pos+1
theorem zmr:∀c:Cx,∃A B:List Nd,A.length=c.pos∧∀x:Tm,(c.fill x).row=A++(x.row++B)
 |hole=>⟨[],[],rfl,fun x=>by simp [fill]⟩
 |seq c b=>by obtain ⟨A,B,h1,h2⟩:=zmr c;exact ⟨nd 5::A,B++b.row,by simp [pos,h1],fun x=>by simp [fill,Tm.yji,h2]⟩
 |hand c b=>by obtain ⟨A,B,h1,h2⟩:=zmr c;exact ⟨nd 8::A,B++b.row,by simp [pos,h1],fun x=>by simp [fill,Tm.yaq,h2]⟩
 |going c b=>by obtain ⟨A,B,h1,h2⟩:=zmr c;exact ⟨nd 12::A,B++b.row,by simp [pos,h1],fun x=>by simp [fill,Tm.qrm,h2]⟩
 |stack c b=>by obtain ⟨A,B,h1,h2⟩:=zmr c;exact ⟨nd 13::A,B++b.row,by simp [pos,h1],fun x=>by simp [fill,Tm.qri,h2]⟩
 |parL c b=>by obtain ⟨A,B,h1,h2⟩:=zmr c;exact ⟨nd 7::A,B++b.row,by simp [pos,h1],fun x=>by simp [fill,Tm.yap,h2]⟩
 |parR a c=>by obtain ⟨A,B,h1,h2⟩:=zmr c;exact ⟨nd 7::(a.row++A),B,by simp only [List.length_cons,List.length_append,Tm.zab,pos,h1];omega,fun x=>by simp [fill,Tm.yap,h2]⟩
 |block c=>by obtain ⟨A,B,h1,h2⟩:=zmr c;exact ⟨nd 9::A,B,by simp [pos,h1],fun x=>by simp [fill,Tm.zxa,h2]⟩
theorem ywn (c:Cx) (x y:Tm):(c.fill x).size+y.size=(c.fill y).size+x.size:=by obtain ⟨A,B,h1,h2⟩:=zmr c;have e1:=congrArg List.length (h2 x);have e2:=congrArg List.length (h2 y);simp only [List.length_append,Tm.zab] at e1 e2;omega
theorem zfa:∀(c:Cx) {u x:Tm},(c.fill u).fine→(x.fine→(c.fill x).fine)∧u.fine
 |hole,u,x,h=>⟨fun k=>k,h⟩
 |seq c b,u,x,h=>⟨fun k=>⟨(zfa c h.1).1 k,h.2⟩,(zfa c (x:=x) h.1).2⟩
 |hand c b,u,x,h=>⟨fun k=>⟨(zfa c h.1).1 k,h.2⟩,(zfa c (x:=x) h.1).2⟩
 |going c b,u,x,h=>⟨fun k=>⟨(zfa c h.1).1 k,h.2⟩,(zfa c (x:=x) h.1).2⟩
 |stack c b,u,x,h=>⟨fun k=>⟨(zfa c h.1).1 k,h.2⟩,(zfa c (x:=x) h.1).2⟩
 |parL c b,u,x,h=>⟨fun k=>⟨(zfa c h.1).1 k,h.2⟩,(zfa c (x:=x) h.1).2⟩
 |parR a c,u,x,h=>⟨fun k=>⟨h.1,(zfa c h.2).1 k⟩,(zfa c (x:=x) h.2).2⟩
 |block c,u,x,h=>⟨fun k=>(zfa c (u:=u) h).1 k,(zfa c (x:=x) (u:=u) h).2⟩
theorem zqm {u x:Tm} (h1:u.po=true→x.po=true) (h2:u.qo=true→x.qo=true):∀c:Cx,((c.fill u).po=true→(c.fill x).po=true)∧((c.fill u).qo=true→(c.fill x).qo=true)
 |hole=>⟨h1,h2⟩
 |seq c b=>by obtain ⟨k1,k2⟩:=zqm h1 h2 c;simp only [fill,Tm.po,Tm.qo,Bool.and_eq_true];exact ⟨fun h=>⟨k1 h.1,h.2⟩,fun h=>⟨k2 h.1,h.2⟩⟩
 |hand c b=>by obtain ⟨k1,k2⟩:=zqm h1 h2 c;simp only [fill,Tm.po,Tm.qo,Bool.and_eq_true];exact ⟨fun h=>⟨k1 h.1,h.2⟩,fun h=>h⟩
 |going c b=>by obtain ⟨k1,k2⟩:=zqm h1 h2 c;simp only [fill,Tm.po,Tm.qo,Bool.and_eq_true];exact ⟨fun h=>h,fun h=>⟨k1 h.1,h.2⟩⟩
 |stack c b=>by obtain ⟨k1,k2⟩:=zqm h1 h2 c;simp only [fill,Tm.po,Tm.qo,Bool.and_eq_true];exact ⟨fun h=>h,fun h=>⟨k2 h.1,h.2⟩⟩
 |parL c b=>by obtain ⟨k1,k2⟩:=zqm h1 h2 c;simp only [fill,Tm.po,Tm.qo,Bool.and_eq_true];exact ⟨fun h=>⟨k1 h.1,h.2⟩,fun h=>⟨k2 h.1,h.2⟩⟩
 |parR a c=>by obtain ⟨k1,k2⟩:=zqm h1 h2 c;simp only [fill,Tm.po,Tm.qo,Bool.and_eq_true];exact ⟨fun h=>⟨h.1,k1 h.2⟩,fun h=>⟨h.1,k2 h.2⟩⟩
 |block c=>by obtain ⟨k1,k2⟩:=zqm h1 h2 c;simp only [fill,Tm.po,Tm.qo];exact ⟨k2,fun h=>h⟩
theorem qnc:∀(m:Tm) (i k:Nat),k∈m.t.wts i→∃(c:Cx) (u:Tm),m=c.fill u∧u.Wt∧k=i+c.pos
 | .act s,i,k,h=>⟨hole,.act s,rfl,.inl ⟨s,rfl⟩,by simpa [Tm.t,T.wts,zcw,pos] using h⟩
 | .yield,i,k,h=>⟨hole,.yield,rfl,.inr (.inr (.inl rfl)),by simpa [Tm.t,T.wts,zcw,pos] using h⟩
 | .alt a b,i,k,h=>⟨hole,.alt a b,rfl,.inr (.inl ⟨a,b,rfl⟩),by simpa [Tm.t,T.wts,zcw,pos] using h⟩
 | .pair a b,i,k,h=>⟨hole,.pair a b,rfl,.inr (.inr (.inr ⟨a,b,rfl⟩)),by simpa [Tm.t,T.wts,zcw,pos] using h⟩
 | .skip,i,k,h=>by simp [Tm.t,T.wts,zcw] at h
 | .throw,i,k,h=>by simp [Tm.t,T.wts,zcw] at h
 | .over s,i,k,h=>by simp [Tm.t,T.wts,zcw] at h
 | .fin s a,i,k,h=>by simp [Tm.t,T.wts,zcw,goK] at h
 | .seq a b,i,k,h=>by obtain ⟨c,u,rfl,h2,rfl⟩:=qnc a (i+1) k (by simpa [Tm.t,T.wts,zcw,goK] using h);exact ⟨seq c b,u,rfl,h2,by simp only [pos];omega⟩
 | .hand a b,i,k,h=>by obtain ⟨c,u,rfl,h2,rfl⟩:=qnc a (i+1) k (by simpa [Tm.t,T.wts,zcw,goK] using h);exact ⟨hand c b,u,rfl,h2,by simp only [pos];omega⟩
 | .going a b,i,k,h=>by obtain ⟨c,u,rfl,h2,rfl⟩:=qnc a (i+1) k (by simpa [Tm.t,T.wts,zcw,goK] using h);exact ⟨going c b,u,rfl,h2,by simp only [pos];omega⟩
 | .stack a b,i,k,h=>by obtain ⟨c,u,rfl,h2,rfl⟩:=qnc a (i+1) k (by simpa [Tm.t,T.wts,zcw,goK] using h);exact ⟨stack c b,u,rfl,h2,by simp only [pos];omega⟩
 | .block a,i,k,h=>by obtain ⟨c,u,rfl,h2,rfl⟩:=qnc a (i+1) k (by simpa [Tm.t,T.wts,zcw,goK] using h);exact ⟨block c,u,rfl,h2,by simp only [pos];omega⟩
 | .par a b,i,k,h=>by
   have h':k∈a.t.wts (i+1)∨k∈b.t.wts (i+1+a.t.size):=by simpa [Tm.t,T.wts,zcw,goK] using h
   rcases h' with h'|h'
   ·obtain ⟨c,u,rfl,h2,rfl⟩:=qnc a (i+1) k h';exact ⟨parL c b,u,rfl,h2,by simp only [pos];omega⟩
   ·obtain ⟨c,u,rfl,h2,rfl⟩:=qnc b (i+1+a.t.size) k h';exact ⟨parR a c,u,rfl,h2,by simp only [pos,Tm.size];omega⟩
theorem qmg {u:Tm} (hu:u.Wt):∀(c:Cx) (i:Nat),i+c.pos∈(c.fill u).t.wts i
 |hole,i=>by rcases hu with ⟨s,rfl⟩|⟨a,b,rfl⟩|rfl|⟨a,b,rfl⟩<;>simp [fill,pos,Tm.t,T.wts,zcw]
 |seq c b,i=>by
  have:=qmg hu c (i+1);rw [show i+(seq c b).pos=i+1+c.pos by simp only [pos];omega]
  simpa [fill,Tm.t,T.wts,zcw,goK] using this
 |hand c b,i=>by
  have:=qmg hu c (i+1);rw [show i+(hand c b).pos=i+1+c.pos by simp only [pos];omega]
  simpa [fill,Tm.t,T.wts,zcw,goK] using this
 |going c b,i=>by
  have:=qmg hu c (i+1);rw [show i+(going c b).pos=i+1+c.pos by simp only [pos];omega]
  simpa [fill,Tm.t,T.wts,zcw,goK] using this
 |stack c b,i=>by
  have:=qmg hu c (i+1);rw [show i+(stack c b).pos=i+1+c.pos by simp only [pos];omega]
  simpa [fill,Tm.t,T.wts,zcw,goK] using this
 |block c,i=>by
  have:=qmg hu c (i+1);rw [show i+(block c).pos=i+1+c.pos by simp only [pos];omega]
  simpa [fill,Tm.t,T.wts,zcw,goK] using this
 |parL c b,i=>by have:=qmg hu c (i+1);rw [show i+(parL c b).pos=i+1+c.pos by simp only [pos];omega];simp [fill,Tm.t,T.wts,zcw,goK];exact .inl this
 |parR a c,i=>by have:=qmg hu c (i+1+a.t.size);rw [show i+(parR a c).pos=i+1+a.t.size+c.pos by simp only [pos,Tm.size];omega];simp [fill,Tm.t,T.wts,zcw,goK];exact .inr this
def bsd:Cx→List (List Nd)×Bool
 |hole=>([],false)
 |seq c _=>c.bsd
 |hand c _=>c.bsd
 |going c _=>c.bsd
 |stack c _=>c.bsd
 |parL c b=>if c.bsd.2=true then (c.bsd.1,true) else (c.bsd.1++[b.row],false)
 |parR a c=>if c.bsd.2=true then (c.bsd.1,true) else (c.bsd.1++[a.row],false)
 |block c=>(c.bsd.1,true)
theorem yuu (t:T) (i:Nat):t.path i i=[]:=by
 cases t with
 |n0 n=>rfl
 |n1 n a=>rw [T.zqt,if_pos rfl]
 |n2 n a b=>rw [T.zif,if_pos rfl]
theorem ygj (u:Tm):∀c:Cx,c.pos<(c.fill u).size:=fun c=>by obtain ⟨A,B,h1,h2⟩:=zmr c;have e1:=congrArg List.length (h2 u);have h3:=u.zdj;simp only [List.length_append,Tm.zab] at e1;omega
theorem zva (u:Tm):∀(c:Cx) (i:Nat),zaz ((c.fill u).t.path i (i+c.pos))=c.bsd
 |hole,i=>by show zaz (u.t.path i (i+0))=_;rw [Nat.add_zero,yuu];rfl
 |seq c b,i=>by
  have ih:=zva u c (i+1);have hl:=ygj u c;have e:i+(seq c b).pos=i+1+c.pos:=by simp only [pos];omega
  show zaz ((T.n2 (nd 5) (c.fill u).t b.t).path i _)=_;rw [e,T.zif,if_neg (by omega),if_pos (by unfold Tm.size at hl;omega),zaz,ih];show (if c.bsd.2=true then (c.bsd.1,true) else (c.bsd.1,false))=c.bsd;split<;>rename_i h<;>exact Prod.ext rfl (by simp [h])
 |hand c b,i=>by
  have ih:=zva u c (i+1);have hl:=ygj u c;have e:i+(hand c b).pos=i+1+c.pos:=by simp only [pos];omega
  show zaz ((T.n2 (nd 8) (c.fill u).t b.t).path i _)=_;rw [e,T.zif,if_neg (by omega),if_pos (by unfold Tm.size at hl;omega),zaz,ih];show (if c.bsd.2=true then (c.bsd.1,true) else (c.bsd.1,false))=c.bsd;split<;>rename_i h<;>exact Prod.ext rfl (by simp [h])
 |going c b,i=>by
  have ih:=zva u c (i+1);have hl:=ygj u c;have e:i+(going c b).pos=i+1+c.pos:=by simp only [pos];omega
  show zaz ((T.n2 (nd 12) (c.fill u).t b.t).path i _)=_;rw [e,T.zif,if_neg (by omega),if_pos (by unfold Tm.size at hl;omega),zaz,ih];show (if c.bsd.2=true then (c.bsd.1,true) else (c.bsd.1,false))=c.bsd;split<;>rename_i h<;>exact Prod.ext rfl (by simp [h])
 |stack c b,i=>by
  have ih:=zva u c (i+1);have hl:=ygj u c;have e:i+(stack c b).pos=i+1+c.pos:=by simp only [pos];omega
  show zaz ((T.n2 (nd 13) (c.fill u).t b.t).path i _)=_;rw [e,T.zif,if_neg (by omega),if_pos (by unfold Tm.size at hl;omega),zaz,ih];show (if c.bsd.2=true then (c.bsd.1,true) else (c.bsd.1,false))=c.bsd;split<;>rename_i h<;>exact Prod.ext rfl (by simp [h])
 |block c,i=>by
  have ih:=zva u c (i+1);have e:i+(block c).pos=i+1+c.pos:=by simp only [pos];omega
  show zaz ((T.n1 (nd 9) (c.fill u).t).path i _)=_;rw [e,T.zqt,if_neg (by omega),zaz,ih];show (if c.bsd.2=true then (c.bsd.1,true) else (c.bsd.1,true))=_;rw [ite_self];rfl
 |parL c b,i=>by
  have ih:=zva u c (i+1);have hl:=ygj u c;have e:i+(parL c b).pos=i+1+c.pos:=by simp only [pos];omega
  show zaz ((T.n2 (nd 7) (c.fill u).t b.t).path i _)=_;rw [e,T.zif,if_neg (by omega),if_pos (by unfold Tm.size at hl;omega),zaz,ih];rfl
 |parR a c,i=>by
  have ih:=zva u c (i+1+a.t.size);have e:i+(parR a c).pos=i+1+a.t.size+c.pos:=by simp only [pos,Tm.size];omega
  show zaz ((T.n2 (nd 7) a.t (c.fill u).t).path i _)=_;rw [e,T.zif,if_neg (by omega),if_neg (by omega),zaz,ih];rfl
end Cx
namespace Tm
def mdT:Tm→Int→Tm
 |act _,_=>over 1
 |alt a b,how=>if how=2 then a else b
 |pair a b,how=>if how=5 then fin 3 skip else going a b
 |_,how=>if how=5 then over 3 else over 1
end Tm
end Go.Rd
namespace Go.Proofs.YtjolkdjkhekbnaaGreatDoor.Sv
open Go Go.Sv Go.Rd
theorem yht [Dfr] (c:Cx) (u:Tm):∃B,(c.fill u).row.drop c.pos=u.row++B:=by obtain ⟨A,B,h1,h2⟩:=Cx.zmr c;exact ⟨B,by rw [h2,←h1,List.drop_left]⟩
theorem xbo [Dfr] (c:Cx) (u x:Tm):putR (c.fill u).row (c.pos:Int) x.row=(c.fill x).row:=by
 obtain ⟨A,B,h1,h2⟩:=Cx.zmr c;have hd:(c.fill u).row.drop c.pos=u.row++B:=by rw [h2,←h1,List.drop_left]
 have hsz:sz ((c.fill u).row.drop c.pos)=u.size:=by unfold sz;rw [hd,show u.row=u.t.row from rfl,qem (Tm.t_ok u)];rfl
 have hpos:0<u.size:=T.zww u.t;have hlen:(c.fill u).row.length=A.length+(u.size+B.length):=by rw [h2,List.length_append,List.length_append,Tm.zab]
 unfold putR;rw [if_pos ⟨by omega,by omega,by rw [Int.toNat_natCast,hsz];exact hpos⟩,Int.toNat_natCast,hsz,←List.drop_drop,hd,←Tm.zab u,List.drop_left];rw [h2 u,h2 x,←h1,List.take_left,List.append_assoc]
theorem ywh [Dfr] (c:Cx) (u:Tm):(c.fill u).row.getD c.pos default=u.t.hd:=by
 obtain ⟨B,hd⟩:=yht c u;have h3:(c.fill u).row[c.pos]? =some u.t.hd:=by rw [←List.head?_drop,hd];show (u.t.row++B).head? =_;cases u.t<;>rfl
 rw [List.getD_eq_getElem?_getD,h3];rfl
theorem xib [Dfr] {n:Tm} {m:Mv} (h:m∈enL n.row):∃(c:Cx) (u:Tm),n=c.fill u∧u.Wt∧m.1=(c.pos:Int)∧m∈zjm u.t.hd.1 (c.pos:Int) (qej n.t c.pos):=by
 obtain ⟨hs,t,k,ht,hm1,hk,hkw,hw,hin⟩:=xct h;have e:t=n.t:=by have:=zpi (Tm.t_ok n);rw [show n.t.row=n.row from rfl,ht] at this;exact Option.some.inj this
 subst e;obtain ⟨c,u,h1,h2,h3⟩:=Cx.qnc n 0 k hkw;rw [Nat.zero_add] at h3;subst h3;refine ⟨c,u,h1,h2,hm1,?_⟩;have:=ywh c u;rw [←h1] at this;rw [←this];exact hin
theorem xkt [Dfr] {c:Cx} {u:Tm} (hs:setL (c.fill u).row) (hu:u.Wt) {m:Mv} (h:m∈zjm u.t.hd.1 (c.pos:Int) (qej (c.fill u).t c.pos)):m∈enL (c.fill u).row:=by rw [qjw (show tree (c.fill u).row=some (c.fill u).t from zpi (Tm.t_ok _)) hs];unfold mvsT;have hw:=Cx.qmg hu c 0;rw [Nat.zero_add] at hw;refine List.mem_flatMap.2 ⟨c.pos,hw,?_⟩;rw [ywh];exact h
theorem xht [Dfr] {u:Tm} (hu:u.Wt) {how:Int} {r:List Nd} {k:Int} {f:Bool} (hin:(k,how)∈zjm u.t.hd.1 k f):zmx (u.row++r) how=(u.mdT how).row∧(u.po=true→(u.mdT how).po=true)∧(u.qo=true→(u.mdT how).qo=true)∧(u.fine→(u.mdT how).fine)∧(u.mdT how).size≤u.size:=by
 have hk:zfl (u.row++r)=u.t.kids.map T.row:=by unfold zfl;rw [show u.row=u.t.row from rfl,qem (Tm.t_ok u)]
 rcases hu with ⟨s,rfl⟩|⟨a,b,rfl⟩|rfl|⟨a,b,rfl⟩
 ·have h1:how=1:=by simpa [zjm,Tm.t,T.hd] using hin
  subst h1;exact ⟨rfl,fun _=>rfl,fun h=>by simp [Tm.qo] at h,fun _=>by show zmc 1=true;decide,Nat.le_refl _⟩
 ·have h1:how=2∨how=3:=by simpa [zjm,Tm.t,T.hd] using hin
  rcases h1 with rfl|rfl
  ·refine ⟨?_,fun h=> ?_,fun h=> ?_,fun h=>h.1,by show a.size≤_;rw [Tm.zuh];omega⟩
   ·unfold zmx;rw [if_pos rfl,hk];rfl
   ·simp only [Tm.po,Bool.and_eq_true] at h;exact Tm.zcg h.1
   ·simp only [Tm.qo,Bool.and_eq_true] at h;exact Tm.zja h.1
  ·refine ⟨?_,fun h=> ?_,fun h=> ?_,fun h=>h.2,by show b.size≤_;rw [Tm.zuh];omega⟩
   ·unfold zmx;rw [if_neg (by decide),if_pos rfl,hk];rfl
   ·simp only [Tm.po,Bool.and_eq_true] at h;exact Tm.zcg h.2
   ·simp only [Tm.qo,Bool.and_eq_true] at h;exact Tm.zja h.2
 ·have h1:how=4∨how=5:=by cases f<;>simp [zjm,Tm.t,T.hd] at hin<;>omega
  rcases h1 with rfl|rfl
  ·exact ⟨rfl,fun _=>rfl,fun h=>by simp [Tm.qo] at h,fun _=>by show zmc 1=true;decide,Nat.le_refl _⟩
  ·exact ⟨rfl,fun _=>rfl,fun h=>by simp [Tm.qo] at h,fun _=>by show zmc 3=true;decide,Nat.le_refl _⟩
 ·have h1:how=4∨how=5:=by cases f<;>simp [zjm,Tm.t,T.hd] at hin<;>omega
  rcases h1 with rfl|rfl
  ·refine ⟨?_,fun h=>by simp [Tm.po] at h,fun h=> ?_,fun h=>h,Nat.le_refl _⟩
   ·unfold zmx;rw [if_neg (by decide),if_neg (by decide),if_neg (by decide),if_pos (show (ix ((Tm.pair a b).row++r) 0).1=10 from rfl),hk];show _::(a.t.row++(b.t.row++[]))=_;rw [List.append_nil];rfl
   ·show (Tm.going a b).qo=true;simp only [Tm.qo,Bool.and_eq_true] at h ⊢;exact ⟨Tm.zcg h.1,h.2⟩
  ·refine ⟨rfl,fun h=>by simp [Tm.po] at h,fun _=>rfl,fun _=>⟨by show zmc 3=true;decide,trivial⟩,?_⟩;have h1:0<a.size:=by rw [←Tm.zab];exact List.length_pos_iff.2 (Tm.qxi a)
   have h2:(Tm.fin 3 .skip).size=2:=rfl;have h3:(Tm.pair a b).size=a.size+b.size+1:=rfl;show (Tm.fin 3 .skip).size≤_;omega
theorem yai [Dfr] {n:Tm} (h:setL n.row):n.fine∧n.size≤200∧(n.po=true∨n.qo=true)∧n.st=n:=by obtain ⟨m,hm,hf,hz,ho,hst,_⟩:=yah h;have:=Tm.qkx hm;subst this;exact ⟨hf,hz,ho,hst⟩
theorem ycc [Dfr] {c:Cx} {u:Tm} {how:Int} (hs:setL (c.fill u).row) (hu:u.Wt) (hin:((c.pos:Int),how)∈zjm u.t.hd.1 (c.pos:Int) (qej (c.fill u).t c.pos)):
 zge (c.fill u).row ((c.pos:Int),how)=((c.fill (u.mdT how)).st.row,u.t.hd.2.1,0)∧(c.fill (u.mdT how)).fine∧(c.fill (u.mdT how)).size≤(c.fill u).size∧(((c.fill u).po=true→(c.fill (u.mdT how)).po=true)∧((c.fill u).qo=true→(c.fill (u.mdT how)).qo=true)):=by
 obtain ⟨hf,hz,ho,hst⟩:=yai hs;obtain ⟨B,hd⟩:=yht c u;obtain ⟨x1,x2,x3,x4,x5⟩:=xht (r:=B) hu hin;have hk:=Cx.zqm x2 x3 c;have hf2:=(Cx.zfa c (x:=u.mdT how) hf).1 (x4 (Cx.zfa c (x:=u) hf).2);have hsz:=Cx.ywn c (u.mdT how) u;have hset:=zmu hf2 (by omega) (ho.imp hk.1 hk.2);refine ⟨?_,hf2,by omega,hk⟩;unfold zge;rw [if_pos (xkt hs hu hin)];show (zbp (putR _ (c.pos:Int) (zmx ((c.fill u).row.drop (c.pos:Int).toNat) how)),(ix ((c.fill u).row.drop (c.pos:Int).toNat) 0).2.1,(0:Int))=_;rw [Int.toNat_natCast,hd,x1,xbo,hset];have:ix (u.row++B) 0=u.t.hd:=by show ix (u.t.row++B) 0=_;cases u.t<;>rfl
 rw [this]
end Go.Proofs.YtjolkdjkhekbnaaGreatDoor.Sv
namespace Go.Rd
open Go Go.Sv
namespace Cx
def fr:Cx→Bool→Bool
 |hole,F=>F
 |seq c _,F=>c.fr F
 |hand c _,F=>c.fr F
 |going c _,F=>c.fr F
 |stack c _,F=>c.fr F
 |parL c b,F=>c.fr (F||b.bang)
 |parR a c,F=>c.fr (F||a.bang)
 |block c,F=>c.fr false
end Cx
namespace Tm
def nmL:Tm→List ByteArray
 |act s=>[s]
 |_=>[]
def pf (u:Tm) (x:Tc):Tc:=(u.nmL++x.1,x.2)
def pfQ (u:Tm) (z:Qc):Qc:=(u.pf z.1,z.2)
def wayT:Tm→Int→Bool→Prop
 |act _,h,_=>h=1
 |alt _ _,h,_=>h=2∨h=3
 |yield,h,f=>h=4∨(h=5∧f=true)
 |pair _ _,h,f=>h=4∨(h=5∧f=true)
 |_,_,_=>False
theorem ykj (u:Tm) (p q:Tc):ziv (u.pf p) q=u.pf (ziv p q):=by
 unfold ziv pf;split
 ·rw [List.append_assoc]
 ·rfl
theorem yus (u:Tm) (p q:Tc):behT (u.pf p) q=u.pf (behT p q):=by unfold behT pf;rw [List.append_assoc]
theorem yur (u:Tm) (p q:Tc):qcp (u.pf p) q=u.pf (qcp p q):=by unfold qcp;rw [yus];show (if p.2=2 then _ else _)=_;split<;>rfl
theorem yut (u:Tm) (p q:Qc):seqF (u.pfQ p) q=u.pfQ (seqF p q):=by
 unfold seqF pfQ;show (if p.1.2=1 then _ else _)=_;split
 ·rw [ykj]
 ·rfl
theorem ygu {α:Type}:∀(l:List α) {p q r:List α},Mx p q r→Mx (l++p) q (l++r)
 |[],_,_,_,h=>h
 |a::l,_,_,_,h=>.l (ygu l h)
theorem xjk {u:Tm} {how:Int} {f:Bool} (h:u.wayT how f):(∀x∈(u.mdT how).tr,u.pf x∈u.tr)∧(∀z∈(u.mdT how).pq,u.pfQ z∈u.pq):=by
 cases u with
 |act s=>exact ⟨fun x hx=>by rw [zal.1 hx];exact qdv.2 rfl,fun z hz=>by (cases hz)⟩
 |alt a b=>
  rcases h with rfl|rfl
  ·exact ⟨fun x hx=>zxh.2 (.inl hx),fun z hz=>zxi.2 (.inl hz)⟩
  ·exact ⟨fun x hx=>zxh.2 (.inr hx),fun z hz=>zxi.2 (.inr hz)⟩
 |yield=>
  rcases h with rfl|⟨rfl,_⟩
  ·exact ⟨fun x hx=>by rw [zal.1 hx];exact zqi.2 (.inl rfl),fun z hz=>by (cases hz)⟩
  ·exact ⟨fun x hx=>by rw [zal.1 hx];exact zqi.2 (.inr rfl),fun z hz=>by (cases hz)⟩
 |pair a b=>
  rcases h with rfl|⟨rfl,_⟩
  ·exact ⟨fun x hx=>by (cases hx),fun z hz=>ztf.2 (.inl (zfs.1 hz))⟩
  ·refine ⟨fun x hx=>by (cases hx),fun z hz=>ztf.2 (.inr ?_)⟩;obtain ⟨q,hq,rfl⟩:=zbn.1 (show z∈(fin 3 skip).pq from hz);rw [zpc.1 hq];rfl
 |_=>exact absurd h id
theorem sound {u:Tm} {how:Int} {f:Bool} (h:u.wayT how f):∀c:Cx,(∀x∈(c.fill (u.mdT how)).tr,u.pf x∈(c.fill u).tr)∧(∀z∈(c.fill (u.mdT how)).pq,u.pfQ z∈(c.fill u).pq)
 | .hole=>xjk h
 | .seq c b=>⟨fun x hx=>by
  obtain ⟨p,hp,q,hq,rfl⟩:=zgw.1 hx;exact zgw.2 ⟨_,(sound h c).1 p hp,q,hq,(ykj u p q).symm⟩,fun z hz=>by
  obtain ⟨p,hp,q,hq,rfl⟩:=zjs.1 hz;exact zjs.2 ⟨_,(sound h c).2 p hp,q,hq,(yut u p q).symm⟩⟩
 | .hand c b=>⟨fun x hx=>by obtain ⟨p,hp,q,hq,rfl⟩:=zhk.1 hx;exact zhk.2 ⟨_,(sound h c).1 p hp,q,hq,(yur u p q).symm⟩,fun z hz=>by (cases hz)⟩
 | .going c b=>⟨fun x hx=>by (cases hx),fun z hz=>by obtain ⟨p,hp,q,hq,rfl⟩:=zfs.1 hz;exact zfs.2 ⟨_,(sound h c).1 p hp,q,hq,rfl⟩⟩
 | .stack c b=>⟨fun x hx=>by (cases hx),fun z hz=>by obtain ⟨p,hp,q,hq,rfl⟩:=zhc.1 hz;exact zhc.2 ⟨_,(sound h c).2 p hp,q,hq,rfl⟩⟩
 | .parL c b=>⟨fun x hx=>by
  obtain ⟨p,hp,q,hq,h1,h2⟩:=zfz.1 hx;exact zfz.2 ⟨_,(sound h c).1 p hp,q,hq,ygu _ h1,h2⟩,fun z hz=>by
  obtain ⟨p,hp,q,hq,⟨h1,h2⟩,h3⟩:=zgx.1 hz;exact zgx.2 ⟨_,(sound h c).2 p hp,q,hq,⟨ygu _ h1,h2⟩,h3⟩⟩
 | .parR a c=>⟨fun x hx=>by
  obtain ⟨p,hp,q,hq,h1,h2⟩:=zfz.1 hx;exact zfz.2 ⟨p,hp,_,(sound h c).1 q hq,(ygu _ h1.symm).symm,h2⟩,fun z hz=>by
  obtain ⟨p,hp,q,hq,⟨h1,h2⟩,h3⟩:=zgx.1 hz;exact zgx.2 ⟨p,hp,_,(sound h c).2 q hq,⟨(ygu _ h1.symm).symm,h2⟩,h3⟩⟩
 | .block c=>⟨fun x hx=>by
  obtain ⟨z,hz,h1⟩:=zet.1 hx;refine zet.2 ⟨_,(sound h c).2 z hz,?_⟩;rcases h1 with ⟨h1,rfl⟩|⟨h1,rfl⟩
  ·exact .inl ⟨h1,rfl⟩
  ·exact .inr ⟨h1,(yus u z.1 z.2).symm⟩,fun z hz=>by (cases hz)⟩
def Stp (m:Tm) (F:Bool) (x:Tc):Prop:=∃(c:Cx) (u:Tm) (how:Int) (y:Tc),m=c.fill u∧u.Wt∧u.wayT how (c.fr F)∧y∈(c.fill (u.mdT how)).tr∧x=u.pf y
def StpQ (m:Tm) (F:Bool) (x:Qc):Prop:=∃(c:Cx) (u:Tm) (how:Int) (y:Qc),m=c.fill u∧u.Wt∧u.wayT how (c.fr F)∧y∈(c.fill (u.mdT how)).pq∧x=u.pfQ y
theorem qjb (u:Tm):u.nmL=[]∨∃s,u.nmL=[s]:=by cases u<;>first|exact .inl rfl|exact .inr ⟨_,rfl⟩
theorem ynl {α:Type} {la pa lb qb r:List α} (hla:la=[]∨∃s,la=[s]) (hlb:lb=[]∨∃s,lb=[s]) (h:Mx (la++pa) (lb++qb) r):(∃r',Mx pa (lb++qb) r'∧r=la++r')∨(∃r',Mx (la++pa) qb r'∧r=lb++r'):=by
 rcases hla with rfl|⟨s,rfl⟩
 ·exact .inl ⟨r,h,rfl⟩
 ·rcases hlb with rfl|⟨s',rfl⟩
  ·exact .inr ⟨r,h,rfl⟩
  ·cases h with
   |l h=>exact .inl ⟨_,h,rfl⟩
   |r h=>exact .inr ⟨_,h,rfl⟩
theorem ymt {a b:Tm} {F:Bool} {p q x:Tc} (hq:q∈b.tr) (h:∃(c:Cx) (u:Tm) (how:Int) (y:Tc),a=c.fill u∧u.Wt∧u.wayT how (c.fr (F||b.bang))∧y∈(c.fill (u.mdT how)).tr∧p=u.pf y∧∃r',Mx y.1 q.1 r'∧x.1=u.nmL++r') (hx:x.2=bs p.2 q.2):Stp (par a b) F x:=by obtain ⟨c,u,how,y,rfl,h2,h3,h4,rfl,r',h5,h6⟩:=h;exact ⟨.parL c b,u,how,(r',bs y.2 q.2),rfl,h2,h3,zfz.2 ⟨y,h4,q,hq,h5,rfl⟩,Prod.ext h6 hx⟩
theorem yms {a b:Tm} {F:Bool} {p q x:Tc} (hp:p∈a.tr) (h:∃(c:Cx) (u:Tm) (how:Int) (y:Tc),b=c.fill u∧u.Wt∧u.wayT how (c.fr (F||a.bang))∧y∈(c.fill (u.mdT how)).tr∧q=u.pf y∧∃r',Mx p.1 y.1 r'∧x.1=u.nmL++r') (hx:x.2=bs p.2 q.2):Stp (par a b) F x:=by obtain ⟨c,u,how,y,rfl,h2,h3,h4,rfl,r',h5,h6⟩:=h;exact ⟨.parR a c,u,how,(r',bs p.2 y.2),rfl,h2,h3,zfz.2 ⟨p,hp,y,h4,h5,rfl⟩,Prod.ext h6 hx⟩
theorem yzq {a b:Tm} {F:Bool} {p q x:Tc} (hq:q∈b.tr) (h:Stp a (F||b.bang) p) (hn:q.1=[]) (hm:Mx p.1 q.1 x.1) (hx:x.2=bs p.2 q.2):Stp (par a b) F x:=by obtain ⟨c,u,how,y,h1,h2,h3,h4,h5⟩:=h;rw [hn] at hm;have e:=hm.yvh;refine ymt (p:=p) hq ⟨c,u,how,y,h1,h2,h3,h4,h5,y.1,by rw [hn];exact Mx.left _,by rw [e,h5];rfl⟩ hx
theorem xga {a b:Tm} {F:Bool} {p q x:Tc} (hp:p∈a.tr) (h:Stp b (F||a.bang) q) (hn:p.1=[]) (hm:Mx p.1 q.1 x.1) (hx:x.2=bs p.2 q.2):Stp (par a b) F x:=by obtain ⟨c,u,how,y,h1,h2,h3,h4,h5⟩:=h;rw [hn] at hm;have e:=hm.qvx;refine yms (q:=q) hp ⟨c,u,how,y,h1,h2,h3,h4,h5,y.1,by rw [hn];exact Mx.right _,by rw [e,h5];rfl⟩ hx
theorem xji {a b:Tm} {F:Bool} {p q x:Tc} (hp:p∈a.tr) (hq:q∈b.tr) (h:Stp a (F||b.bang) p) (k:Stp b (F||a.bang) q) (hm:Mx p.1 q.1 x.1) (hx:x.2=bs p.2 q.2):Stp (par a b) F x:=by
 obtain ⟨c,u,how,y,h1,h2,h3,h4,h5⟩:=h;obtain ⟨c',u',how',y',k1,k2,k3,k4,k5⟩:=k;have hm':Mx (u.nmL++y.1) (u'.nmL++y'.1) x.1:=by rw [h5,k5] at hm;exact hm
 rcases ynl (qjb u) (qjb u') hm' with ⟨r',e1,e2⟩|⟨r',e1,e2⟩
 ·exact ymt (p:=p) hq ⟨c,u,how,y,h1,h2,h3,h4,h5,r',by rw [k5];exact e1,e2⟩ hx
 ·exact yms (q:=q) hp ⟨c',u',how',y',k1,k2,k3,k4,k5,r',by rw [h5];exact e1,e2⟩ hx
theorem yeb {a b:Tm} {F:Bool} {p q x:Qc} (hq:q∈b.pq) (h:∃(c:Cx) (u:Tm) (how:Int) (y:Qc),a=c.fill u∧u.Wt∧u.wayT how (c.fr (F||b.bang))∧y∈(c.fill (u.mdT how)).pq∧p=u.pfQ y∧∃r',Mx y.1.1 q.1.1 r'∧x.1.1=u.nmL++r') (hx:x.1.2=bs p.1.2 q.1.2) (h2m:Mx p.2.1 q.2.1 x.2.1) (h2:x.2.2=bs p.2.2 q.2.2):StpQ (par a b) F x:=by obtain ⟨c,u,how,y,rfl,k2,k3,k4,rfl,r',k5,k6⟩:=h;exact ⟨.parL c b,u,how,((r',bs y.1.2 q.1.2),x.2),rfl,k2,k3,zgx.2 ⟨y,k4,q,hq,⟨k5,rfl⟩,h2m,h2⟩,Prod.ext (Prod.ext k6 hx) rfl⟩
theorem yea {a b:Tm} {F:Bool} {p q x:Qc} (hp:p∈a.pq) (h:∃(c:Cx) (u:Tm) (how:Int) (y:Qc),b=c.fill u∧u.Wt∧u.wayT how (c.fr (F||a.bang))∧y∈(c.fill (u.mdT how)).pq∧q=u.pfQ y∧∃r',Mx p.1.1 y.1.1 r'∧x.1.1=u.nmL++r') (hx:x.1.2=bs p.1.2 q.1.2) (h2m:Mx p.2.1 q.2.1 x.2.1) (h2:x.2.2=bs p.2.2 q.2.2):StpQ (par a b) F x:=by obtain ⟨c,u,how,y,rfl,k2,k3,k4,rfl,r',k5,k6⟩:=h;exact ⟨.parR a c,u,how,((r',bs p.1.2 y.1.2),x.2),rfl,k2,k3,zgx.2 ⟨p,hp,y,k4,⟨k5,rfl⟩,h2m,h2⟩,Prod.ext (Prod.ext k6 hx) rfl⟩
theorem ymu {a b:Tm} {F:Bool} {p q x:Qc} (hq:q∈b.pq) (h:StpQ a (F||b.bang) p) (hn:q.1.1=[]) (hm:Mx p.1.1 q.1.1 x.1.1) (hx:x.1.2=bs p.1.2 q.1.2) (h2m:Mx p.2.1 q.2.1 x.2.1) (h2:x.2.2=bs p.2.2 q.2.2):StpQ (par a b) F x:=by obtain ⟨c,u,how,y,h1,k2,h3,h4,h5⟩:=h;rw [hn] at hm;have e:=hm.yvh;exact yeb (p:=p) hq ⟨c,u,how,y,h1,k2,h3,h4,h5,y.1.1,by rw [hn];exact Mx.left _,by rw [e,h5];rfl⟩ hx h2m h2
theorem ysp {a b:Tm} {F:Bool} {p q x:Qc} (hp:p∈a.pq) (h:StpQ b (F||a.bang) q) (hn:p.1.1=[]) (hm:Mx p.1.1 q.1.1 x.1.1) (hx:x.1.2=bs p.1.2 q.1.2) (h2m:Mx p.2.1 q.2.1 x.2.1) (h2:x.2.2=bs p.2.2 q.2.2):StpQ (par a b) F x:=by obtain ⟨c,u,how,y,h1,k2,h3,h4,h5⟩:=h;rw [hn] at hm;have e:=hm.qvx;exact yea (q:=q) hp ⟨c,u,how,y,h1,k2,h3,h4,h5,y.1.1,by rw [hn];exact Mx.right _,by rw [e,h5];rfl⟩ hx h2m h2
theorem xgb {a b:Tm} {F:Bool} {p q x:Qc} (hp:p∈a.pq) (hq:q∈b.pq) (h:StpQ a (F||b.bang) p) (k:StpQ b (F||a.bang) q) (hm:Mx p.1.1 q.1.1 x.1.1) (hx:x.1.2=bs p.1.2 q.1.2) (h2m:Mx p.2.1 q.2.1 x.2.1) (h2:x.2.2=bs p.2.2 q.2.2):StpQ (par a b) F x:=by
 obtain ⟨c,u,how,y,h1,h2',h3,h4,h5⟩:=h;obtain ⟨c',u',how',y',k1,k2,k3,k4,k5⟩:=k;have hm':Mx (u.nmL++y.1.1) (u'.nmL++y'.1.1) x.1.1:=by rw [h5,k5] at hm;exact hm
 rcases ynl (qjb u) (qjb u') hm' with ⟨r',e1,e2⟩|⟨r',e1,e2⟩
 ·exact yeb (p:=p) hq ⟨c,u,how,y,h1,h2',h3,h4,h5,r',by rw [k5];exact e1,e2⟩ hx h2m h2
 ·exact yea (q:=q) hp ⟨c',u',how',y',k1,k2,k3,k4,k5,r',by rw [h5];exact e1,e2⟩ hx h2m h2
def Cnd (F:Bool) (x:Tc):Prop:=F=true∨x.2≠3∨x.1≠[]
theorem xle {p q:Tc} (h:p.2=3):ziv p q=p:=by unfold ziv;rw [if_neg (by omega)]
theorem xcx {F:Bool} {p q:Tc} (h:Cnd F (ziv p q)):Cnd F p:=by
 by_cases h3:p.2=3
 ·rw [xle h3] at h;exact h
 ·exact .inr (.inl h3)
theorem xcy {F:Bool} {p q:Tc} (h:Cnd F (qcp p q)):Cnd F p:=by
 by_cases h3:p.2=3
 ·unfold qcp at h;rw [if_neg (by omega)] at h;exact h
 ·exact .inr (.inl h3)
theorem xif {F:Bool} {p q:Qc} (h:Cnd F (seqF p q).1):Cnd F p.1:=by
 by_cases h3:p.1.2=3
 ·unfold seqF at h;rw [if_neg (by omega)] at h;exact h
 ·exact .inr (.inl h3)
theorem yde {F:Bool} {s:Int} {x q:Tc} (hs:zmc s=true) (h:Cnd F x) (hx:x.2=bs s q.2) (h1:x.1=q.1):Cnd (F||decide (s=2)) q:=by
 rcases h with h|h|h
 ·exact .inl (by rw [h];rfl)
 ·by_cases h2:s=2
  ·exact .inl (by rw [decide_eq_true h2,Bool.or_true])
  ·by_cases h3:q.2=3
   ·exfalso;apply h;rw [hx,h3];rcases zqb.1 hs with rfl|rfl|rfl
    ·decide
    ·exact absurd rfl h2
    ·decide
   ·exact .inr (.inl h3)
 ·exact .inr (.inr (by rw [←h1];exact h))
theorem yxc {F:Bool} {p q x:Tc} (h:Cnd F x) (hx:x.2=bs p.2 q.2) (h1:x.1=[]):F=true∨p.2≠3∨q.2≠3:=by
 rcases h with h|h|h
 ·exact .inl h
 ·by_cases h3:p.2=3
  ·by_cases h4:q.2=3
   ·exfalso;apply h;rw [hx,h3,h4];decide
   ·exact .inr (.inr h4)
  ·exact .inr (.inl h3)
 ·exact absurd h1 h
theorem zux:∀m:Tm,m.settled→m.fine→(m.po=true→m.zhq=false→∀(F:Bool) (x:Tc),x∈m.tr→Cnd F x→Stp m F x)∧(m.qo=true→m.isFin=false→∀(F:Bool) (x:Qc),x∈m.pq→Cnd F x.1→StpQ m F x)
 |act s,hs,hf=>⟨fun _ _ F x hx _=>⟨.hole,act s,1,([],1),rfl,.inl ⟨s,rfl⟩,rfl,zal.2 rfl,qdv.1 hx⟩,fun h=>by simp [qo] at h⟩
 |skip,hs,hf=>by unfold settled at hs;rw [zsr] at hs;cases hs
 |throw,hs,hf=>by unfold settled at hs;rw [zpj] at hs;cases hs
 |yield,hs,hf=>⟨fun _ _ F x hx hc=>by
  rcases zqi.1 hx with rfl|rfl
  ·exact ⟨.hole,yield,4,([],1),rfl,.inr (.inr (.inl rfl)),.inl rfl,zal.2 rfl,rfl⟩
  ·have hF:F=true:=by
    rcases hc with h|h|h
    ·exact h
    ·exact absurd rfl h
    ·exact absurd rfl h
   exact ⟨.hole,yield,5,([],3),rfl,.inr (.inr (.inl rfl)),.inr ⟨rfl,hF⟩,zal.2 rfl,rfl⟩,fun h=>by simp [qo] at h⟩
 |over s,hs,hf=>⟨fun _ h=>by simp [zhq] at h,fun h=>by simp [qo] at h⟩
 |fin s a,hs,hf=>⟨fun h=>by simp [po] at h,fun _ h=>by simp [isFin] at h⟩
 |alt a b,hs,hf=>⟨fun _ _ F x hx hc=>by
  rcases zxh.1 hx with h|h
  ·exact ⟨.hole,alt a b,2,x,rfl,.inr (.inl ⟨a,b,rfl⟩),.inl rfl,h,rfl⟩
  ·exact ⟨.hole,alt a b,3,x,rfl,.inr (.inl ⟨a,b,rfl⟩),.inr rfl,h,rfl⟩,fun _ _ F x hx hc=>by
  rcases zxi.1 hx with h|h
  ·exact ⟨.hole,alt a b,2,x,rfl,.inr (.inl ⟨a,b,rfl⟩),.inl rfl,h,rfl⟩
  ·exact ⟨.hole,alt a b,3,x,rfl,.inr (.inl ⟨a,b,rfl⟩),.inr rfl,h,rfl⟩⟩
 |pair a b,hs,hf=>⟨fun h=>by simp [po] at h,fun _ _ F x hx hc=>by
  rcases ztf.1 hx with h|rfl
  ·exact ⟨.hole,pair a b,4,x,rfl,.inr (.inr (.inr ⟨a,b,rfl⟩)),.inl rfl,zfs.2 h,rfl⟩
  ·have hF:F=true:=by
    rcases hc with h|h|h
    ·exact h
    ·exact absurd rfl h
    ·exact absurd rfl h
   exact ⟨.hole,pair a b,5,(([],3),([],1)),rfl,.inr (.inr (.inr ⟨a,b,rfl⟩)),.inr ⟨rfl,hF⟩,zbn.2 ⟨_,zpc.2 rfl,rfl⟩,rfl⟩⟩
 |seq a b,hs,hf=>by
  obtain ⟨h1,h2,h3⟩:=qga hs;obtain ⟨iha,ihb⟩:=zux a h1 hf.1;refine ⟨fun h _ F x hx hc=> ?_,fun h _ F x hx hc=> ?_⟩
  ·simp only [po,Bool.and_eq_true] at h;obtain ⟨p,hp,q,hq,rfl⟩:=zgw.1 hx;obtain ⟨c,u,how,y,rfl,e2,e3,e4,rfl⟩:=iha h.1 h2 F p hp (xcx hc);exact ⟨.seq c b,u,how,_,rfl,e2,e3,zgw.2 ⟨y,e4,q,hq,rfl⟩,ykj u y q⟩
  ·simp only [qo,Bool.and_eq_true] at h;obtain ⟨p,hp,q,hq,rfl⟩:=zjs.1 hx;obtain ⟨c,u,how,y,rfl,e2,e3,e4,rfl⟩:=ihb h.1 h3 F p hp (xif hc);exact ⟨.seq c b,u,how,_,rfl,e2,e3,zjs.2 ⟨y,e4,q,hq,rfl⟩,yut u y q⟩
 |hand a b,hs,hf=>by obtain ⟨h1,h2⟩:=qbg hs;refine ⟨fun h _ F x hx hc=> ?_,fun h=>by simp [qo] at h⟩;simp only [po,Bool.and_eq_true] at h;obtain ⟨p,hp,q,hq,rfl⟩:=zhk.1 hx;obtain ⟨c,u,how,y,rfl,e2,e3,e4,rfl⟩:=(zux a h1 hf.1).1 h.1 h2 F p hp (xcy hc);exact ⟨.hand c b,u,how,_,rfl,e2,e3,zhk.2 ⟨y,e4,q,hq,rfl⟩,yur u y q⟩
 |going a b,hs,hf=>by obtain ⟨h1,h2⟩:=zyk hs;refine ⟨fun h=>by simp [po] at h,fun h _ F x hx hc=> ?_⟩;simp only [qo,Bool.and_eq_true] at h;obtain ⟨p,hp,q,hq,rfl⟩:=zfs.1 hx;obtain ⟨c,u,how,y,rfl,e2,e3,e4,rfl⟩:=(zux a h1 hf.1).1 h.1 h2 F p hp hc;exact ⟨.going c b,u,how,_,rfl,e2,e3,zfs.2 ⟨y,e4,q,hq,rfl⟩,rfl⟩
 |stack a b,hs,hf=>by obtain ⟨h1,h2⟩:=zyi hs;refine ⟨fun h=>by simp [po] at h,fun h _ F x hx hc=> ?_⟩;simp only [qo,Bool.and_eq_true] at h;obtain ⟨p,hp,q,hq,rfl⟩:=zhc.1 hx;obtain ⟨c,u,how,y,rfl,e2,e3,e4,rfl⟩:=(zux a h1 hf.1).2 h.1 h2 F p hp hc;exact ⟨.stack c b,u,how,_,rfl,e2,e3,zhc.2 ⟨y,e4,q,hq,rfl⟩,rfl⟩
 |block a,hs,hf=>by
  obtain ⟨h1,h2⟩:=zyl hs;refine ⟨fun h _ F x hx hc=> ?_,fun h=>by simp [qo] at h⟩;simp only [po] at h;obtain ⟨z,hz,hzx⟩:=zet.1 hx;have hc2:Cnd false z.1:=.inr (.inl (by rcases hzx with ⟨h,_⟩|⟨h,_⟩<;>omega));have hfin:a.isFin=false:=by
   cases a<;>first|rfl|skip
   rename_i s c _;exfalso;obtain ⟨q,hq,rfl⟩:=zbn.1 hz;have:=h2 s c rfl;rcases hzx with ⟨h,_⟩|⟨h,_⟩
   ·exact this.1 h
   ·exact this.2 h
  obtain ⟨c,u,how,y,rfl,e2,e3,e4,rfl⟩:=(zux a h1 hf).2 h hfin false z hz hc2;rcases hzx with ⟨k,rfl⟩|⟨k,rfl⟩
  ·exact ⟨.block c,u,how,y.1,rfl,e2,e3,zet.2 ⟨y,e4,.inl ⟨k,rfl⟩⟩,rfl⟩
  ·exact ⟨.block c,u,how,behT y.1 y.2,rfl,e2,e3,zet.2 ⟨y,e4,.inr ⟨k,rfl⟩⟩,yus u y.1 y.2⟩
 |par a b,hs,hf=>by
  obtain ⟨h1,h2,h3,h4⟩:=zyj hs;obtain ⟨iha,iha'⟩:=zux a h1 hf.1;obtain ⟨ihb,ihb'⟩:=zux b h2 hf.2;refine ⟨fun h _ F x hx hc=> ?_,fun h _ F x hx hc=> ?_⟩
  ·simp only [po,Bool.and_eq_true] at h;obtain ⟨p,hp,q,hq,hm,hx2⟩:=zfz.1 hx;cases hao:a.zhq with
   |true=>
    have hbo:b.zhq=false:=by rcases h3 with h3|h3;rw [hao] at h3;cases h3;exact h3
    cases a<;>first|(cases hao;done)|skip
    rename_i s;have ep:=zal.1 hp;have e1:p.1=[]:=by rw [ep]
    have e2:x.1=q.1:=by rw [e1] at hm;exact hm.qvx
    exact xga hp (ihb h.2 hbo _ q hq (yde hf.1 hc (by rw [hx2,ep]) e2)) e1 hm hx2
   |false=>
    cases hbo:b.zhq with
    |true=>
     cases b<;>first|(cases hbo;done)|skip
     rename_i s;have ep:=zal.1 hq;have e1:q.1=[]:=by rw [ep]
     have e2:x.1=p.1:=by rw [e1] at hm;exact hm.yvh
     exact yzq hq (iha h.1 hao _ p hp (yde hf.2 hc (by rw [hx2,ep,yxj]) e2)) e1 hm hx2
    |false=>
     by_cases hp1:p.1=[]
     ·by_cases hq1:q.1=[]
      ·have hx1:x.1=[]:=by rw [hp1,hq1] at hm;exact hm.qvx
       rcases yxc hc hx2 hx1 with k|k|k
       ·exact yzq hq (iha h.1 hao _ p hp (.inl (by rw [k];rfl))) hq1 hm hx2
       ·exact yzq hq (iha h.1 hao _ p hp (.inr (.inl k))) hq1 hm hx2
       ·exact xga hp (ihb h.2 hbo _ q hq (.inr (.inl k))) hp1 hm hx2
      ·exact xga hp (ihb h.2 hbo _ q hq (.inr (.inr hq1))) hp1 hm hx2
     ·by_cases hq1:q.1=[]
      ·exact yzq hq (iha h.1 hao _ p hp (.inr (.inr hp1))) hq1 hm hx2
      ·exact xji hp hq (iha h.1 hao _ p hp (.inr (.inr hp1))) (ihb h.2 hbo _ q hq (.inr (.inr hq1))) hm hx2
  ·simp only [qo,Bool.and_eq_true] at h;obtain ⟨p,hp,q,hq,⟨hm,hx2⟩,m2,m3⟩:=zgx.1 hx;cases hao:a.isFin with
   |true=>
    have hbo:b.isFin=false:=by rcases h4 with h3|h3;rw [hao] at h3;cases h3;exact h3
    cases a<;>first|(cases hao;done)|skip
    rename_i s c;obtain ⟨v,_,ep⟩:=zbn.1 hp;have e1:p.1.1=[]:=by rw [ep]
    have e2:x.1.1=q.1.1:=by rw [e1] at hm;exact hm.qvx
    exact ysp hp (ihb' h.2 hbo _ q hq (yde hf.1.1 hc (by rw [hx2,ep]) e2)) e1 hm hx2 m2 m3
   |false=>
    cases hbo:b.isFin with
    |true=>
     cases b<;>first|(cases hbo;done)|skip
     rename_i s c;obtain ⟨v,_,ep⟩:=zbn.1 hq;have e1:q.1.1=[]:=by rw [ep]
     have e2:x.1.1=p.1.1:=by rw [e1] at hm;exact hm.yvh
     exact ymu hq (iha' h.1 hao _ p hp (yde hf.2.1 hc (by rw [hx2,ep,yxj]) e2)) e1 hm hx2 m2 m3
    |false=>
     by_cases hp1:p.1.1=[]
     ·by_cases hq1:q.1.1=[]
      ·have hx1:x.1.1=[]:=by rw [hp1,hq1] at hm;exact hm.qvx
       rcases yxc hc hx2 hx1 with k|k|k
       ·exact ymu hq (iha' h.1 hao _ p hp (.inl (by rw [k];rfl))) hq1 hm hx2 m2 m3
       ·exact ymu hq (iha' h.1 hao _ p hp (.inr (.inl k))) hq1 hm hx2 m2 m3
       ·exact ysp hp (ihb' h.2 hbo _ q hq (.inr (.inl k))) hp1 hm hx2 m2 m3
      ·exact ysp hp (ihb' h.2 hbo _ q hq (.inr (.inr hq1))) hp1 hm hx2 m2 m3
     ·by_cases hq1:q.1.1=[]
      ·exact ymu hq (iha' h.1 hao _ p hp (.inr (.inr hp1))) hq1 hm hx2 m2 m3
      ·exact xgb hp hq (iha' h.1 hao _ p hp (.inr (.inr hp1))) (ihb' h.2 hbo _ q hq (.inr (.inr hq1))) hm hx2 m2 m3
end Tm
namespace Tm
def ngv:Tm→Bool
 |over s=>decide (s≠3)
 |fin s _=>decide (s≠3)
 |seq a _=>a.ngv
 |hand a _=>a.ngv
 |going a _=>a.ngv
 |stack a _=>a.ngv
 |par a b=>a.bang||b.bang||(a.ngv&&b.ngv)
 |_=>true
def okB:Tm→Bool
 |block a=>a.ngv&&a.okB
 |seq a _=>a.okB
 |hand a _=>a.okB
 |going a _=>a.okB
 |stack a _=>a.okB
 |par a b=>a.okB&&b.okB
 |_=>true
theorem qao:∀m:Tm,(m.pl=true→m.okB=true∧m.ngv=true)∧(m.pa=true→m.okB=true∧m.ngv=true)
 |act s|skip|throw|yield=>⟨fun _=>⟨rfl,rfl⟩,fun _=>⟨rfl,rfl⟩⟩
 |over s|fin s a=>⟨fun h=>by simp [pl] at h,fun h=>by simp [pa] at h⟩
 |alt a b|pair a b=>⟨fun _=>⟨rfl,rfl⟩,fun _=>⟨rfl,rfl⟩⟩
 |going a b|stack a b=>⟨fun h=>by simp [pl] at h,fun h=>by simp [pa] at h⟩
 |seq a b=>⟨fun h=>by simp only [pl,Bool.and_eq_true] at h;exact (qao a).1 h.1,fun h=>by simp only [pa,Bool.and_eq_true] at h;exact (qao a).2 h.1⟩
 |hand a b=>⟨fun h=>by simp only [pl,Bool.and_eq_true] at h;exact (qao a).1 h.1,fun h=>by simp [pa] at h⟩
 |par a b=>⟨fun h=>by
  simp only [pl,Bool.and_eq_true] at h;obtain ⟨h1,h2⟩:=(qao a).1 h.1;obtain ⟨h3,h4⟩:=(qao b).1 h.2;simp only [okB,ngv,h1,h2,h3,h4,Bool.and_self,Bool.or_true,and_self],fun h=>by
  simp only [pa,Bool.and_eq_true] at h;obtain ⟨h1,h2⟩:=(qao a).2 h.1;obtain ⟨h3,h4⟩:=(qao b).2 h.2;simp only [okB,ngv,h1,h2,h3,h4,Bool.and_self,Bool.or_true,and_self]⟩
 |block a=>⟨fun h=>by simp only [pl] at h;obtain ⟨h1,h2⟩:=(qao a).2 h;simp only [okB,ngv,h1,h2,Bool.and_self,and_self],fun h=>by simp [pa] at h⟩
theorem ymd {x c:Tm} (h:x.bang=true):(zlm x c).bang=true:=by cases x<;>first|exact h|skip
theorem bs2 {s z:Int} (hs:zmc s=true) (hz:zmc z=true) (h:s=2∨z=2):bs s z=2:=by unfold bs;rw [hs,hz];simp only [Bool.and_self,if_true];rw [if_pos h]
theorem yxr:∀m:Tm,m.fine→m.bang=true→m.st.bang=true:=by
 intro m
 induction m with
 |over s=>intro _ h;rw [zhx];exact h
 |fin s a _=>intro _ h;rw [zre];exact h
 |seq a b iha _=>
  intro hf h;have ih:=iha hf.1 h;rw [zzy];generalize a.st=x at ih;cases x<;>simp only [seq']<;>first|exact ih|skip
  ·rename_i s;have:s=2:=of_decide_eq_true ih;rw [if_neg (by omega)];exact ih
  ·rename_i s c;have:s=2:=of_decide_eq_true ih;rw [if_neg (by omega)];exact ih
 |going a b iha _=>
  intro hf h;have ih:=iha hf.1 h;rw [zns];generalize a.st=x at ih;cases x<;>simp only [qcq]<;>first|exact ih|skip
  ·rename_i s;have:s=2:=of_decide_eq_true ih;rw [if_neg (by omega)];exact ih
 |stack a b iha _=>intro hf h;rw [zmo];exact ymd (iha hf.1 h)
 |par a b iha ihb=>
  intro hf h;have fa:=zvf hf.1;have fb:=zvf hf.2;have h':a.st.bang=true∨b.st.bang=true:=by simp only [bang,Bool.or_eq_true] at h;exact h.imp (iha hf.1) (ihb hf.2)
  rw [zpx];generalize a.st=x at h' fa;generalize b.st=y at h' fb;rcases zpb x y with ⟨s,z,rfl,rfl,e⟩|⟨s,c,z,d,rfl,rfl,e⟩|e
  ·rw [e];refine decide_eq_true (bs2 fa fb ?_);rcases h' with h'|h'
   ·exact .inl (of_decide_eq_true h')
   ·exact .inr (of_decide_eq_true h')
  ·rw [e];refine decide_eq_true (bs2 fa.1 fb.1 ?_);rcases h' with h'|h'
   ·exact .inl (of_decide_eq_true h')
   ·exact .inr (of_decide_eq_true h')
  ·rw [e];simp only [bang,Bool.or_eq_true];exact h'
 |_=>intro _ h;simp [bang] at h
theorem xkv {s z:Int} (hs:s≠3) (hz:z≠3):bs s z≠3:=by
 unfold bs;split
 ·split
  ·omega
  ·split<;>omega
 ·omega
theorem yxk {s z:Int} (h:s=2∨z=2):bs s z≠3:=by
 unfold bs;simp only [if_pos h];split
 ·decide
 ·decide
theorem xge:∀m:Tm,m.fine→(m.po=true∨m.qo=true)→m.okB=true→m.st.okB=true∧(m.ngv=true→m.st.ngv=true):=by
 intro m
 induction m using qde with
 |h m ih=>
  intro hf ho hk;have hstk:∀x c:Tm,x.okB=true→(zlm x c).okB=true:=fun x c h=>by cases x<;>first|exact h|rfl
  have hstn:∀x c:Tm,x.ngv=true→(zlm x c).ngv=true:=fun x c h=>by cases x<;>exact h
  cases m with
  |act s=>rw [qba];exact ⟨rfl,fun _=>rfl⟩
  |skip=>rw [zsr];exact ⟨rfl,fun _=>rfl⟩
  |throw=>rw [zpj];exact ⟨rfl,fun _=>rfl⟩
  |yield=>rw [zmn];exact ⟨rfl,fun _=>rfl⟩
  |over s=>rw [zhx];exact ⟨rfl,fun h=>h⟩
  |alt a b=>rw [qia];exact ⟨rfl,fun _=>rfl⟩
  |pair a b=>rw [zya];exact ⟨rfl,fun _=>rfl⟩
  |fin s a=>rw [zre];exact ⟨rfl,fun h=>h⟩
  |hand a b=>
   have hp:a.po=true∧b.pl=true:=by
    rcases ho with h|h
    ·simpa only [po,Bool.and_eq_true] using h
    ·simp [qo] at h
   obtain ⟨a1,a2⟩:=ih a (by rw [zbk];omega) hf.1 (.inl hp.1) hk;obtain ⟨k1,k2⟩:=(qao b).1 hp.2;obtain ⟨b1,b2⟩:=ih b (by rw [zbk];omega) hf.2 (.inl (zcg hp.2)) k1;have a3:(hand a b).ngv=true→a.st.ngv=true:=a2;rw [zve];generalize a.st=x at a1 a3;cases x<;>simp only [hand']<;>first|exact ⟨a1,a3⟩|skip
   split
   ·exact ⟨b1,fun _=>b2 k2⟩
   ·exact ⟨rfl,a3⟩
  |seq a b=>
   have hp:(a.po=true∨a.qo=true)∧(b.pl=true∨b.pa=true):=by
    rcases ho with h|h
    ·simp only [po,Bool.and_eq_true] at h;exact ⟨.inl h.1,.inl h.2⟩
    ·simp only [qo,Bool.and_eq_true] at h;exact ⟨.inr h.1,.inr h.2⟩
   obtain ⟨a1,a2⟩:=ih a (by rw [zbf];omega) hf.1 hp.1 hk;obtain ⟨k1,k2⟩:b.okB=true∧b.ngv=true:=hp.2.elim (qao b).1 (qao b).2;obtain ⟨b1,b2⟩:=ih b (by rw [zbf];omega) hf.2 (hp.2.imp zcg zja) k1;have a3:(seq a b).ngv=true→a.st.ngv=true:=a2;rw [zzy];generalize a.st=x at a1 a3;cases x<;>simp only [seq']<;>first|exact ⟨a1,a3⟩|skip
   ·split
    ·exact ⟨b1,fun _=>b2 k2⟩
    ·exact ⟨rfl,a3⟩
   ·split
    ·exact ⟨hstk _ _ b1,fun _=>hstn _ _ (b2 k2)⟩
    ·exact ⟨rfl,a3⟩
  |stack a c=>
   have hp:a.qo=true:=by
    rcases ho with h|h
    ·simp [po] at h
    ·simp only [qo,Bool.and_eq_true] at h;exact h.1
   obtain ⟨a1,a2⟩:=ih a (by rw [zcx];omega) hf.1 (.inr hp) hk;rw [zmo];exact ⟨hstk _ _ a1,fun h=>hstn _ _ (a2 h)⟩
  |going a b=>
   have hp:a.po=true:=by
    rcases ho with h|h
    ·simp [po] at h
    ·simp only [qo,Bool.and_eq_true] at h;exact h.1
   obtain ⟨a1,a2⟩:=ih a (by rw [zca];omega) hf.1 (.inl hp) hk;have a3:(going a b).ngv=true→a.st.ngv=true:=a2;rw [zns];generalize a.st=x at a1 a3;cases x<;>simp only [qcq]<;>first|exact ⟨a1,a3⟩|skip
   split
   ·exact ⟨rfl,fun _=>rfl⟩
   ·exact ⟨rfl,a3⟩
  |par a b=>
   have hp:(a.po=true∨a.qo=true)∧(b.po=true∨b.qo=true):=by
    rcases ho with h|h
    ·simp only [po,Bool.and_eq_true] at h;exact ⟨.inl h.1,.inl h.2⟩
    ·simp only [qo,Bool.and_eq_true] at h;exact ⟨.inr h.1,.inr h.2⟩
   have hk':a.okB=true∧b.okB=true:=by simpa only [okB,Bool.and_eq_true] using hk
   obtain ⟨a1,a2⟩:=ih a (by rw [zbv];omega) hf.1 hp.1 hk'.1;obtain ⟨b1,b2⟩:=ih b (by rw [zbv];omega) hf.2 hp.2 hk'.2;have n3:(par a b).ngv=true→(a.st.bang=true∨b.st.bang=true)∨(a.st.ngv=true∧b.st.ngv=true):=fun h=>by
    simp only [ngv,Bool.or_eq_true,Bool.and_eq_true] at h;rcases h with (h|h)|h
    ·exact .inl (.inl (yxr a hf.1 h))
    ·exact .inl (.inr (yxr b hf.2 h))
    ·exact .inr ⟨a2 h.1,b2 h.2⟩
   rw [zpx];generalize a.st=x at a1 n3;generalize b.st=y at b1 n3;have key:∀s z:Int,(x.bang=decide (s=2))→(y.bang=decide (z=2))→(x.ngv=decide (s≠3))→(y.ngv=decide (z≠3))→(par a b).ngv=true→bs s z≠3:=fun s z e1 e2 e3 e4 h=>by
    rcases n3 h with (h|h)|⟨h,h'⟩
    ·exact yxk (.inl (of_decide_eq_true (e1▸h)))
    ·exact yxk (.inr (of_decide_eq_true (e2▸h)))
    ·exact xkv (of_decide_eq_true (e3▸h)) (of_decide_eq_true (e4▸h'))
   rcases zpb x y with ⟨s,z,rfl,rfl,e⟩|⟨s,c,z,d,rfl,rfl,e⟩|e
   ·rw [e];exact ⟨rfl,fun h=>decide_eq_true (key s z rfl rfl rfl rfl h)⟩
   ·rw [e];exact ⟨rfl,fun h=>decide_eq_true (key s z rfl rfl rfl rfl h)⟩
   ·rw [e];refine ⟨by simp only [okB,a1,b1,Bool.and_self],fun h=> ?_⟩;simp only [ngv,Bool.or_eq_true,Bool.and_eq_true];exact n3 h
  |block a=>
   have hp:a.qo=true:=by
    rcases ho with h|h
    ·exact h
    ·simp [qo] at h
   have hk':a.ngv=true∧a.okB=true:=by simpa only [okB,Bool.and_eq_true] using hk
   obtain ⟨a1,a2⟩:=ih a (by rw [zav];omega) hf (.inr hp) hk'.2;have a3:=a2 hk'.1;have hsz:=zcd a;have hfi:=zvf (m:=a) hf;have hqo:=qzw hp;rw [znt];generalize a.st=x at a1 a3 hsz hfi hqo;have plain:(block x).okB=true∧((block a).ngv=true→(block x).ngv=true):=⟨by simp only [okB,a1,a3,Bool.and_self],fun _=>rfl⟩;cases x<;>simp only [block']<;>first|exact plain|skip
   rename_i s c;simp only [qo] at hqo;split
   ·exact ⟨rfl,fun _=>rfl⟩
   ·split
    ·obtain ⟨k1,k2⟩:=(qao c).1 hqo;obtain ⟨c1,c2⟩:=ih c (by rw [zav];rw [zcn] at hsz;omega) hfi.2 (.inl (zcg hqo)) k1;exact ⟨c1,fun _=>c2 k2⟩
    ·exact plain
theorem zzp {u:Tm} {how:Int} (hu:u.Wt):∀(c:Cx) (F:Bool),((c.fill u).po=true∨(c.fill u).qo=true)→u.wayT how (c.fr F)→(c.fill u).okB=true→
 (c.fill (u.mdT how)).okB=true∧(F=false→(c.fill u).ngv=true→(c.fill (u.mdT how)).ngv=true)∧((c.fill u).bang=true→(c.fill (u.mdT how)).bang=true)
 | .hole,F,ho,hw,hk=>by
   have hb:u.bang=true→(u.mdT how).bang=true:=fun h=>by rcases hu with ⟨s,rfl⟩|⟨a,b,rfl⟩|rfl|⟨a,b,rfl⟩<;>simp [bang] at h
   have key:(u.mdT how).okB=true∧(F=false→(u.mdT how).ngv=true):=by
    rcases hu with ⟨s,rfl⟩|⟨a,b,rfl⟩|rfl|⟨a,b,rfl⟩
    ·exact ⟨rfl,fun _=>rfl⟩
    ·have hab:(a.okB=true∧a.ngv=true)∧(b.okB=true∧b.ngv=true):=by
      rcases ho with h|h
      ·have h':(a.pl&&b.pl)=true:=h;rw [Bool.and_eq_true] at h';exact ⟨(qao a).1 h'.1,(qao b).1 h'.2⟩
      ·have h':(a.pa&&b.pa)=true:=h;rw [Bool.and_eq_true] at h';exact ⟨(qao a).2 h'.1,(qao b).2 h'.2⟩
     show (if how=2 then a else b).okB=true∧(F=false→(if how=2 then a else b).ngv=true);split
     ·exact ⟨hab.1.1,fun _=>hab.1.2⟩
     ·exact ⟨hab.2.1,fun _=>hab.2.2⟩
    ·rcases hw with rfl|⟨rfl,h⟩
     ·exact ⟨rfl,fun _=>rfl⟩
     ·have h:F=true:=h;exact ⟨rfl,fun h2=>by rw [h] at h2;cases h2⟩
    ·have hab:a.okB=true∧a.ngv=true:=by
      rcases ho with h|h
      ·have h':false=true:=h;cases h'
      ·have h':(a.pl&&b.pl)=true:=h;rw [Bool.and_eq_true] at h';exact (qao a).1 h'.1
     rcases hw with rfl|⟨rfl,h⟩
     ·exact ⟨hab.1,fun _=>hab.2⟩
     ·have h:F=true:=h;exact ⟨rfl,fun h2=>by rw [h] at h2;cases h2⟩
   exact ⟨key.1,fun h _=>key.2 h,hb⟩
 | .seq c b,F,ho,hw,hk=>zzp hu c F (ho.imp (fun h=>(Bool.and_eq_true _ _▸(show ((c.fill u).po&&b.pl)=true from h):_∧_).1) (fun h=>(Bool.and_eq_true _ _▸(show ((c.fill u).qo&&b.pa)=true from h):_∧_).1)) hw hk
 | .hand c b,F,ho,hw,hk=>by
   have ho':(c.fill u).po=true:=by
    rcases ho with h|h
    ·have h':((c.fill u).po&&b.pl)=true:=h;rw [Bool.and_eq_true] at h';exact h'.1
    ·have h':false=true:=h;cases h'
   obtain ⟨h1,h2,_⟩:=zzp hu c F (.inl ho') hw hk;exact ⟨h1,h2,fun h=>by have h':false=true:=h;cases h'⟩
 | .going c b,F,ho,hw,hk=>by
   have ho':(c.fill u).po=true:=by
    rcases ho with h|h
    ·have h':false=true:=h;cases h'
    ·have h':((c.fill u).po&&b.pl)=true:=h;rw [Bool.and_eq_true] at h';exact h'.1
   exact zzp hu c F (.inl ho') hw hk
 | .stack c b,F,ho,hw,hk=>by
   have ho':(c.fill u).qo=true:=by
    rcases ho with h|h
    ·have h':false=true:=h;cases h'
    ·have h':((c.fill u).qo&&b.pl)=true:=h;rw [Bool.and_eq_true] at h';exact h'.1
   exact zzp hu c F (.inr ho') hw hk
 | .block c,F,ho,hw,hk=>by
   have ho':(c.fill u).qo=true:=by
    rcases ho with h|h
    ·exact h
    ·have h':false=true:=h;cases h'
   have hk':((c.fill u).ngv&&(c.fill u).okB)=true:=hk;rw [Bool.and_eq_true] at hk';obtain ⟨h1,h2,h3⟩:=zzp hu c false (.inr ho') hw hk'.2;refine ⟨?_,fun _ _=>rfl,fun h=>by have h':false=true:=h;cases h'⟩;show ((c.fill (u.mdT how)).ngv&&(c.fill (u.mdT how)).okB)=true;rw [h1,h2 rfl hk'.1];rfl
 | .parL c b,F,ho,hw,hk=>by
   have ho':(c.fill u).po=true∨(c.fill u).qo=true:=by
    rcases ho with h|h
    ·have h':((c.fill u).po&&b.po)=true:=h;rw [Bool.and_eq_true] at h';exact .inl h'.1
    ·have h':((c.fill u).qo&&b.qo)=true:=h;rw [Bool.and_eq_true] at h';exact .inr h'.1
   have hk':((c.fill u).okB&&b.okB)=true:=hk;rw [Bool.and_eq_true] at hk';obtain ⟨h1,h2,h3⟩:=zzp hu c (F||b.bang) ho' hw hk'.1;refine ⟨?_,fun hF hn=> ?_,fun h=> ?_⟩
   ·show ((c.fill (u.mdT how)).okB&&b.okB)=true;rw [h1,hk'.2];rfl
   ·have hn':((c.fill u).bang||b.bang||((c.fill u).ngv&&b.ngv))=true:=hn;show ((c.fill (u.mdT how)).bang||b.bang||((c.fill (u.mdT how)).ngv&&b.ngv))=true;cases hb:b.bang with
    |true=>simp
    |false=>
     rw [hb] at h2 hn';simp only [Bool.or_false,Bool.or_eq_true,Bool.and_eq_true] at hn' ⊢;rcases hn' with h|h
     ·exact .inl (h3 h)
     ·exact .inr ⟨h2 (by rw [hF];rfl) h.1,h.2⟩
   ·have h':((c.fill u).bang||b.bang)=true:=h;show ((c.fill (u.mdT how)).bang||b.bang)=true;rw [Bool.or_eq_true] at h' ⊢;exact h'.imp h3 id
 | .parR a c,F,ho,hw,hk=>by
   have ho':(c.fill u).po=true∨(c.fill u).qo=true:=by
    rcases ho with h|h
    ·have h':(a.po&&(c.fill u).po)=true:=h;rw [Bool.and_eq_true] at h';exact .inl h'.2
    ·have h':(a.qo&&(c.fill u).qo)=true:=h;rw [Bool.and_eq_true] at h';exact .inr h'.2
   have hk':(a.okB&&(c.fill u).okB)=true:=hk;rw [Bool.and_eq_true] at hk';obtain ⟨h1,h2,h3⟩:=zzp hu c (F||a.bang) ho' hw hk'.2;refine ⟨?_,fun hF hn=> ?_,fun h=> ?_⟩
   ·show (a.okB&&(c.fill (u.mdT how)).okB)=true;rw [h1,hk'.1];rfl
   ·have hn':(a.bang||(c.fill u).bang||(a.ngv&&(c.fill u).ngv))=true:=hn;show (a.bang||(c.fill (u.mdT how)).bang||(a.ngv&&(c.fill (u.mdT how)).ngv))=true;cases hb:a.bang with
    |true=>simp
    |false=>
     rw [hb] at h2 hn';simp only [Bool.false_or,Bool.or_eq_true,Bool.and_eq_true] at hn' ⊢;rcases hn' with h|h
     ·exact .inl (h3 h)
     ·exact .inr ⟨h.1,h2 (by rw [hF];rfl) h.2⟩
   ·have h':(a.bang||(c.fill u).bang)=true:=h;show (a.bang||(c.fill (u.mdT how)).bang)=true;rw [Bool.or_eq_true] at h' ⊢;exact h'.imp id h3
theorem zuq:∀m:Tm,m.okB=true→m.stuck=false
 |act s,_|skip,_|throw,_|yield,_|over s,_=>rfl
 |alt a b,_|pair a b,_=>rfl
 |fin s a,_=>rfl
 |seq a b,h=>zuq a h
 |hand a b,h=>zuq a h
 |going a b,h=>zuq a h
 |stack a b,h=>zuq a h
 |par a b,h=>by have h':(a.okB&&b.okB)=true:=h;rw [Bool.and_eq_true] at h';simp only [stuck,zuq a h'.1,zuq b h'.2,Bool.or_self]
 |block a,h=>by
  have h':(a.ngv&&a.okB)=true:=h;rw [Bool.and_eq_true] at h';have ih:=zuq a h'.2;unfold stuck;rw [ih,Bool.or_false];cases a<;>first|rfl|skip
  rename_i s c;have:s≠3:=of_decide_eq_true h'.1;exact decide_eq_false this
end Tm
end Go.Rd
