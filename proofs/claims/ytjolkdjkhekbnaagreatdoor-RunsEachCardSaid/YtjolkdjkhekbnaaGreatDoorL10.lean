/- The laws of settling: what each tells. -/
import Derived.Test.YtjolkdjkhekbnaaGreatDoorW10
import Derived.Test.YtjolkdjkhekbnaaGreatDoorM5
import Derived.Test.YtjolkdjkhekbnaaGreatDoorW11
namespace Go.Proofs.YtjolkdjkhekbnaaGreatDoor.Sv
open Go Go.Sv Go.Rd
theorem zmw [Dfr] {m:Tm} (hf:m.fine) (hs:m.size≤200) (ho:m.po=true∨m.qo=true):zbw m.row=m.st.row:=by
 unfold zbw
 rw [ziv.2 ⟨rfl,hf,hs⟩]
 simp [ho]
theorem qfv [Dfr] (l:List Nd):(zbw l).length≤200:=by
 unfold zbw
 split
 ·rename_i m hm
  split
  ·have:=m.zdk
   have:=(ziv.1 hm).2.2
   rw [Tm.zab];omega
  ·simp
 ·simp
theorem zyk [Dfr] (l:List Nd):zbw l=[]∨∃m:Tm,l=m.row∧m.fine∧m.size≤200∧(m.po=true∨m.qo=true)∧zbw l=m.st.row∧sOf l=m.so:=by
 unfold zbw sOf
 cases h:tmOf l with
 |none=>exact .inl rfl
 |some m =>
  obtain ⟨rfl,h2,h3⟩:=ziv.1 h
  by_cases ho:m.po=true∨m.qo=true
  ·exact .inr ⟨m,rfl,h2,h3,ho,by simp [ho],rfl⟩
  ·exact .inl (by simp [ho])
def setL (l:List Nd):Prop:=l≠[]∧zbw l=l
theorem qng [Dfr] {l:List Nd} (h:setL l):∃m:Tm,l=m.row∧m.fine∧m.size≤200∧(m.po=true∨m.qo=true)∧m.st=m∧sOf l=m.so:=by
 obtain ⟨h0,h1⟩:=h
 rcases zyk l with h2|⟨m,hm,hf,hs,ho,hst,hso⟩
 ·rw [h2] at h1;exact absurd h1.symm h0
 ·refine ⟨m,hm,hf,hs,ho,?_,hso⟩
  rw [h1,hm] at hst
  exact (Tm.qao hst).symm
theorem zxv [Dfr] {m:Tm} (hf:m.fine) (hs:m.size≤200) (ho:m.po=true∨m.qo=true) (h:m.st=m):setL m.row:=by
 refine ⟨Tm.qkq _,?_⟩
 rw [zmw hf hs ho,h]
noncomputable def dmL (x:List Nd):Bool:=(@decide (setL x) (Classical.propDecidable _))&&(match tree x with|some t=>t.bang|none=>false)
theorem ysx [Dfr] {c:T} (hok:c.ok) (hs:c.size≤1000000):znh c.row=some (dmL c.row):=by
 rw [qov (znu hok) (by rw [T.zab];exact hs)]
 unfold dmL
 rw [znu hok]
 congr 2
 by_cases h:setL c.row
 ·rw [decide_eq_true (p:=c.row≠[]∧zbw c.row=c.row) h]
  exact (@decide_eq_true _ (Classical.propDecidable _) h).symm
 ·rw [decide_eq_false (p:=c.row≠[]∧zbw c.row=c.row) h]
  exact (@decide_eq_false _ (Classical.propDecidable _) h).symm
theorem yhx [Dfr]:∀p:List (Nat×Nat×T),(zaz p).1.length≤p.length
 |[]=>by simp [zaz]
 |x::p=>by
  have ih:=yhx p
  rw [zaz]
  split
  ·simp;omega
  ·split
   ·simp;omega
   ·simp;omega
theorem yns [Dfr] {t:T} (hok:t.ok) {i k:Nat} {y:List Nd} (h:y∈(zaz (t.path i k)).1):∃c:T,c.ok∧c.size≤t.size∧y=c.row:=by
 obtain ⟨x,hx,h7,rfl⟩:=qpj h
 exact (qnz t i k hok x hx).2 h7
noncomputable def qaz (t:T) (k:Nat):Bool:= !(zaz (t.path 0 k)).2||(zaz (t.path 0 k)).1.any dmL
theorem qsz [Dfr] [zcd] {l:List Nd} {t:T} (ht:tree l=some t) (hl:l.length≤1000000) (hs:setL l) {k:Nat} (hk:k∈t.wts 0):zqk l (k:Int)=some (qaz t k):=by
 obtain ⟨hok,hrow⟩:=zht.1 ht
 have hlen:l.length=t.size:=by rw [hrow,T.zab]
 refine qwf ht hl hs hk dmL (fun x hx=> ?_) ?_
 ·obtain ⟨c,c1,c2,rfl⟩:=yns hok hx
  exact ysx c1 (by omega)
 ·have h1:=yhx (t.path 0 k)
  have h2:=T.zuo t 0 k
  omega
theorem qxc [Dfr] (t:T):(t.wts 0).length≤t.size:=by
 rw [zih t.row t 0 [] (by rw [List.drop_zero,List.append_nil])]
 have:=List.length_filter_le (fun k=>zcp (t.row.getD k default).1&& !zvd (t.path 0 k)) (List.range' 0 t.size)
 rw [List.length_range'] at this
 exact this
def tabW:List (Int×List (Int×Nat)):=[(1,[(1,zai)]),(6,[(2,zai),(3,zai)]),(4,[(4,zai),(5,zdc)]),(10,[(4,zai),(5,zdc)])]
class zdz [Dfr]:Prop where
 ways:zkm=some tabW
def zit (kd:Int) (at_:Int) (free:Bool):List Mv :=
 if kd=1 then [(at_,1)] else if kd=6 then [(at_,2),(at_,3)] else (at_,4)::(if free=true then [(at_,5)] else [])
theorem qgs [Dfr] (kd at_:Int) (f:Bool):(zit kd at_ f).length≤2:=by
 unfold zit
 split
 ·simp
 ·split
  ·simp
  ·split<;>simp
theorem yfm [Dfr] {kd x:Int} {f:Bool}:(∀p∈zit kd x f,p.1=x)∧True:=by
 unfold zit
 split
 ·simp
 ·split
  ·simp
  ·split<;>simp
theorem zlg [Dfr] (l:List Nd) (tb:List (Int×List (Int×Nat))) (at_:Int) (y11:List Int) (y12 y13:Int) (ws:List (Int×Nat)) (hw:ws.length≤1000) (ok:Nat→Bool)
 (hd:∀w∈ws,dyn E ⟨w.2,[]⟩ [.one (.slice 68 (.pair (.int .i64) (.pair .str (.int .i64))) l .no),.one (.int .i64 at_)] .bool=some (ok w.2)):∀(r:List (Int×Nat)) (i:Nat) (acc:List Mv),ws.drop i=r→acc.length+r.length≤4000000→
 zdx l tb acc at_ y11 y12 y13 ws (ws.length:Int) (i:Int)=some (0,(l,tb,acc++(r.filter fun w=>ok w.2).map fun w=>(at_,w.1),y11,y12,y13))
 |[],i,acc,h,ha=>by
  obtain ⟨h1,h2⟩:=drop_nil h
  rw [zob]
  simp only [h2,cond_false]
  simp
 |w::r,i,acc,h,ha=>by
  obtain ⟨h1,h2,h3,h4,h5,h6⟩:=zan h
  have hm:=hd w (List.mem_of_mem_drop (by rw [h];exact List.mem_cons_self ..))
  simp only [List.length_cons] at ha
  rw [zob]
  simp only [h2,h3,h4,cond_true,hm,Option.bind_some,zen (show i<9223372036854775807 by omega)]
  rw [List.filter_cons]
  cases ho:ok w.2 with
  |true =>
   simp only [cond_true,room (show (acc.length+1)*16≤140737488355328 by omega),if_true]
   rw [zlg l tb at_ y11 y12 y13 ws hw ok hd r (i+1) _ h5 (by simp;omega)]
   simp
  |false =>
   simp only [cond_false,Bool.false_eq_true,if_false]
   rw [zlg l tb at_ y11 y12 y13 ws hw ok hd r (i+1) _ h5 (by omega)]
theorem qde [Dfr] (l:List Nd) (at_:Int) (y11:List Int) (y12 y13:Int) (kd:Int) (hk:zcp kd=true) (f:Bool) (hf:zqk l at_=some f) (acc:List Mv) (ha:acc.length≤3000000) :
 zdx l tabW acc at_ y11 y12 y13 (zia tabW kd) ((zia tabW kd).length:Int) 0=some (0,(l,tabW,acc++zit kd at_ f,y11,y12,y13)):=by
 have ha':dyn E ⟨zai,[]⟩ [.one (.slice 68 (.pair (.int .i64) (.pair .str (.int .i64))) l .no),.one (.int .i64 at_)] .bool=some true:=(qgt l at_).trans (qjo l at_)
 have hf':dyn E ⟨zdc,[]⟩ [.one (.slice 68 (.pair (.int .i64) (.pair .str (.int .i64))) l .no),.one (.int .i64 at_)] .bool=some f:=(qou l at_).trans hf
 have key:∀ws:List (Int×Nat),zia tabW kd=ws→(∀w∈ws,w.2=zai∨w.2=zdc)→ws.length≤2→
  zdx l tabW acc at_ y11 y12 y13 (zia tabW kd) ((zia tabW kd).length:Int) 0=some (0,(l,tabW,acc++(ws.filter fun w=>if w.2=zdc then f else true).map fun w=>(at_,w.1),y11,y12,y13)):=fun ws e hm hl=>by
  have:=zlg l tabW at_ y11 y12 y13 ws (by omega) (fun q=>if q=zdc then f else true) (fun w hw=>by
   rcases hm w hw with h|h
   ·rw [h,ha',if_neg (by decide)]
   ·rw [h,hf',if_pos rfl]) ws 0 acc rfl (by omega)
  rw [Int.natCast_zero] at this
  rw [e]
  exact this
 unfold zcp at hk
 have hk:=of_decide_eq_true hk
 have d1:¬zai=zdc:=by decide
 rcases hk with rfl|rfl|rfl|rfl
 ·rw [key [(1,zai)] rfl (by simp) (by simp)]
  simp [zit,d1]
 ·rw [key [(2,zai),(3,zai)] rfl (by simp) (by simp)]
  simp [zit,d1]
 ·rw [key [(4,zai),(5,zdc)] rfl (by simp) (by simp)]
  cases f<;>simp [zit,d1]
 ·rw [key [(4,zai),(5,zdc)] rfl (by simp) (by simp)]
  cases f<;>simp [zit,d1]
theorem zlh [Dfr] (l:List Nd) (xs:List Int) (hx:xs.length≤1000000) (fr:Int→Bool) (hk:∀x∈xs,zaa x l.length=true∧zcp (ix l x).1=true∧zqk l x=some (fr x)):∀(r:List Int) (i:Nat) (acc:List Mv),xs.drop i=r→acc.length≤2*i→
 zje l tabW acc xs (xs.length:Int) (i:Int)=some (0,acc++r.flatMap fun x=>zit (ix l x).1 x (fr x))
 |[],i,acc,h,ha=>by
  obtain ⟨h1,h2⟩:=drop_nil h
  rw [zoc]
  simp only [h2,cond_false]
  simp
 |x::r,i,acc,h,ha=>by
  obtain ⟨h1,h2,h3,h4,h5,h6⟩:=zan h
  obtain ⟨k1,k2,k3⟩:=hk x (List.mem_of_mem_drop (by rw [h];exact List.mem_cons_self ..))
  have hl:=qgs (ix l x).1 x (fr x)
  rw [zoc]
  simp only [h2,h3,h4,cond_true,k1,qde l x xs (xs.length:Int) (i:Int) (ix l x).1 k2 (fr x) k3 acc (by omega),Option.bind_some,zen (show i<9223372036854775807 by omega)]
  rw [zlh l xs hx fr hk r (i+1) _ h5 (by rw [List.length_append];omega)]
  simp
noncomputable def mvsT (l:List Nd) (t:T):List Mv:=(t.wts 0).flatMap fun k=>zit (l.getD k default).1 (k:Int) (qaz t k)
theorem qxd [Dfr] {l:List Nd} {t:T} (ht:tree l=some t) {k:Nat} (hk:k∈t.wts 0):k<l.length∧zcp (l.getD k default).1=true:=by
 obtain ⟨hok,hrow⟩:=zht.1 ht
 rw [zih l t 0 [] (by rw [List.drop_zero,List.append_nil];exact hrow),List.mem_filter] at hk
 obtain ⟨h1,h2⟩:=hk
 rw [List.mem_range'_1] at h1
 rw [Bool.and_eq_true] at h2
 exact ⟨by rw [hrow,T.zab];omega,h2.1⟩
theorem ynv [Dfr] {l:List Nd} {t:T} (ht:tree l=some t) {x:Int} (hx:x∈(t.wts 0).map fun (k:Nat)=>(k:Int)):zaa x l.length=true∧zcp (ix l x).1=true∧ix l x=l.getD x.toNat default:=by
 obtain ⟨k,hk,rfl⟩:=List.mem_map.1 hx
 obtain ⟨h1,h2⟩:=qxd ht hk
 have h3:ix l (k:Int)=l.getD k default:=by rw [qhg h1,List.getD_eq_getElem?_getD,List.getElem?_eq_getElem h1];rfl
 exact ⟨zqh h1,by rw [h3];exact h2,h3⟩
theorem qjp [Dfr] [zcd] [zdz] {l:List Nd} {t:T} (ht:tree l=some t) (hl:l.length≤1000000) (hs:setL l):zey l=some (mvsT l t):=by
 obtain ⟨hok,hrow⟩:=zht.1 ht
 have hlen:l.length=t.size:=by rw [hrow,T.zab]
 have hw:=qxc t
 have e:=zlh l ((t.wts 0).map fun (k:Nat)=>(k:Int)) (by rw [List.length_map];omega) (fun x=>qaz t x.toNat) (fun x hx=>by
  obtain ⟨k1,k2,_⟩:=ynv ht hx
  obtain ⟨k,hk,rfl⟩:=List.mem_map.1 hx
  exact ⟨k1,k2,qsz ht hl hs hk⟩) _ 0 [] rfl (by simp)
 rw [Int.natCast_zero] at e
 rw [zth,qcj,zdz.ways,Option.bind_some,zzq ht hl hs,Option.bind_some,e,Option.bind_some,List.nil_append]
 congr 1
 show List.flatMap _ (List.drop 0 _)=_
 unfold mvsT
 rw [List.drop_zero,List.flatMap_map,List.flatMap_def,List.flatMap_def]
 refine congrArg List.flatten (List.map_congr_left fun k hk=> ?_)
 rw [(ynv ht (List.mem_map.2 ⟨k,hk,rfl⟩)).2.2]
 rfl
theorem qgw [Dfr] [zcd] [zdz] {l:List Nd} (hl:l.length≤1000000) (hs:¬setL l):zey l=some []:=by
 have e:=zlh l [] (by simp) (fun _=>false) (fun x hx=>by cases hx) [] 0 [] rfl (by simp)
 rw [Int.natCast_zero] at e
 rw [zth,qcj,zdz.ways,Option.bind_some,qka hl hs,Option.bind_some,e]
 rfl
noncomputable def enL (l:List Nd):List Mv:=match @decide (setL l) (Classical.propDecidable _),tree l with
 |true,some t=>mvsT l t
 |_,_=>[]
theorem qhq [Dfr] {l:List Nd} {t:T} (ht:tree l=some t) (hs:setL l):enL l=mvsT l t:=by
 unfold enL
 rw [@decide_eq_true _ (Classical.propDecidable _) hs,ht]
theorem qys [Dfr] {l:List Nd} (hs:¬setL l):enL l=[]:=by
 unfold enL
 rw [@decide_eq_false _ (Classical.propDecidable _) hs]
theorem zyl [Dfr] {l:List Nd} (h:setL l):∃m:Tm,l=m.row∧m.fine∧m.size≤200∧(m.po=true∨m.qo=true)∧m.st=m∧sOf l=m.so∧tree l=some m.t:=by
 obtain ⟨m,hm,hf,h1,h2,h3,h4⟩:=qng h
 exact ⟨m,hm,hf,h1,h2,h3,h4,by rw [hm];exact znu (Tm.t_ok m)⟩
theorem zjf [Dfr] [zcd] [zdz] (l:List Nd) (hl:l.length≤1000000):zey l=some (enL l):=by
 by_cases hs:setL l
 ·obtain ⟨m,_,_,_,_,_,_,ht⟩:=zyl hs
  rw [qjp ht hl hs,qhq ht hs]
 ·rw [qgw hl hs,qys hs]
theorem ymg [Dfr] (l:List Nd) (t:T):(mvsT l t).length≤2*t.size:=by
 have hw:=qxc t
 unfold mvsT
 have key:∀r:List Nat,(r.flatMap fun k=>zit (l.getD k default).1 (k:Int) (qaz t k)).length≤2*r.length:=fun r=>by
  induction r with
  |nil=>simp
  |cons k r ih =>
   have:=qgs (l.getD k default).1 (k:Int) (qaz t k)
   simp only [List.flatMap_cons,List.length_append,List.length_cons]
   omega
 have:=key (t.wts 0)
 omega
theorem qoq [Dfr] (l:List Nd):(enL l).length≤400:=by
 by_cases hs:setL l
 ·obtain ⟨m,hm,_,hz,_,_,_,ht⟩:=zyl hs
  rw [qhq ht hs]
  have:=ymg l m.t
  have h2:m.t.size=m.size:=by rw [←T.zab];exact Tm.zab m
  omega
 ·rw [qys hs];simp
theorem yfn [Dfr] [zcd] [zdz] (l:List Nd) (m:Mv) (hl:l.length≤1000000):qvf l m=some (decide (m∈enL l)):=by
 have h:=qoq l
 rw [yai,zjf l hl,Option.bind_some,zmt _ _ (by omega)]
 rfl
def qrr (n:Int) (k:Nat):Nat:=(if n.tmod (k:Int)<0 then n.tmod (k:Int)+(k:Int) else n.tmod (k:Int)).toNat
theorem ymc [Dfr] (n:Int) {k:Nat} (hk:0<k):qrr n k<k∧(if n.tmod (k:Int)<0 then n.tmod (k:Int)+(k:Int) else n.tmod (k:Int))=(qrr n k:Int):=by
 have h1:=Int.tmod_lt_of_pos n (show (0:Int)<(k:Int) by omega)
 have h2: -(k:Int)<n.tmod (k:Int):=by
  have:=Int.tmod_lt_of_pos (-n) (show (0:Int)<(k:Int) by omega)
  rw [Int.neg_tmod] at this
  omega
 unfold qrr
 split<;>omega
noncomputable def zmy (l:List Mv) (n:Int):Mv×Int:=if l=[] then ((0,0),120) else (l.getD (qrr n l.length) default,0)
theorem yeu [Dfr] (r1:List Mv) (x1:Int) (h:r1.length≤4000000) :
 (bif ((r1.length:Int)==0) then (some (((0,0):Mv),(120:Int))) else (bif ((r1.length:Int)==0) then (none) else (bif (decide ((x1.tmod (r1.length:Int))<0)) then (bif (zaa (w64 ((x1.tmod (r1.length:Int))+(r1.length:Int))) r1.length) then (some (ix r1 (w64 ((x1.tmod (r1.length:Int))+(r1.length:Int))),0)) else (none)) else (bif (zaa (x1.tmod (r1.length:Int)) r1.length) then (some (ix r1 (x1.tmod (r1.length:Int)),0)) else (none)))))=some (zmy r1 x1):=by
 unfold zmy
 cases r1 with
 |nil=>rfl
 |cons a r =>
  generalize hL:a::r=L at h ⊢
  have hpos:0<L.length:=by rw [←hL];simp
  have h0:((L.length:Int)==0)=false:=by rw [beq_eq_false_iff_ne];omega
  rw [if_neg (show ¬L=[] from fun h=>by rw [h] at hpos;simp at hpos)]
  simp only [h0,cond_false]
  obtain ⟨h1,h2⟩:=ymc x1 hpos
  have h3:ix L ((qrr x1 L.length:Nat):Int)=L.getD (qrr x1 L.length) default:=by rw [qhg h1,List.getD_eq_getElem?_getD,List.getElem?_eq_getElem h1];rfl
  by_cases hn:x1.tmod (L.length:Int)<0
  ·rw [if_pos hn] at h2
   rw [decide_eq_true hn,cond_true,znt (by omega) (by omega),h2,zqh h1,h3];rfl
  ·rw [if_neg hn] at h2
   rw [decide_eq_false hn,cond_false,h2,zqh h1,h3];rfl
theorem qve [Dfr] [zcd] [zdz] (l:List Nd) (n:Int) (hl:l.length≤1000000):qgv l n=some (zmy (enL l) n):=by
 have h:=qoq l
 rw [qsc,zjf l hl,Option.bind_some]
 exact yeu _ _ (by omega)
end Go.Proofs.YtjolkdjkhekbnaaGreatDoor.Sv
