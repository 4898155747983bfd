/- The laws of settling: what each tells. -/
import Derived.Test.YtjolkdjkhekbnaaGreatDoorM9
set_option linter.unusedVariables false
set_option linter.unusedSimpArgs false
namespace Go.Proofs.YtjolkdjkhekbnaaGreatDoor.Sv
open Go Go.Sv Go.Rd
theorem zmu [Dfr] {m:Tm} (hf:m.fine) (hs:m.size≤200) (ho:m.po=true∨m.qo=true):zbp m.row=m.st.row:=by unfold zbp;rw [zjg.2 ⟨rfl,hf,hs⟩];simp [ho]
theorem qgb [Dfr] (l:List Nd):(zbp l).length≤200:=by
 unfold zbp;split
 ·rename_i m hm;split
  ·have:=m.zcd;have:=(zjg.1 hm).2.2;rw [Tm.zab];omega
  ·simp
 ·simp
theorem zyn [Dfr] (l:List Nd):zbp l=[]∨∃m:Tm,l=m.row∧m.fine∧m.size≤200∧(m.po=true∨m.qo=true)∧zbp l=m.st.row∧sOf l=m.so:=by
 unfold zbp sOf;cases h:tmOf l with
 |none=>exact .inl rfl
 |some m=>
  obtain ⟨rfl,h2,h3⟩:=zjg.1 h;by_cases ho:m.po=true∨m.qo=true
  ·exact .inr ⟨m,rfl,h2,h3,ho,by simp [ho],rfl⟩
  ·exact .inl (by simp [ho])
def setL (l:List Nd):Prop:=l≠[]∧zbp l=l
theorem yah [Dfr] {l:List Nd} (h:setL l):∃m:Tm,l=m.row∧m.fine∧m.size≤200∧(m.po=true∨m.qo=true)∧m.st=m∧sOf l=m.so:=by
 obtain ⟨h0,h1⟩:=h;rcases zyn l with h2|⟨m,hm,hf,hs,ho,hst,hso⟩
 ·rw [h2] at h1;exact absurd h1.symm h0
 ·refine ⟨m,hm,hf,hs,ho,?_,hso⟩;rw [h1,hm] at hst;exact (Tm.qkx hst).symm
theorem qhx [Dfr] {m:Tm} (hf:m.fine) (hs:m.size≤200) (ho:m.po=true∨m.qo=true) (h:m.st=m):setL m.row:=by refine ⟨Tm.qxi _,?_⟩;rw [zmu hf hs ho,h]
noncomputable def dmL (x:List Nd):Bool:=(@decide (setL x) (Classical.propDecidable _))&&(match tree x with|some t=>t.bang|none=>false)
theorem xid [Dfr] {c:T} (hok:c.ok) (hs:c.size≤1000000):zto c.row=some (dmL c.row):=by
 rw [ycy (zpi hok) (by rw [T.zab];exact hs)];unfold dmL;rw [zpi hok]
 congr 2
 by_cases h:setL c.row
 ·rw [decide_eq_true (p:=c.row≠[]∧zbp c.row=c.row) h];exact (@decide_eq_true _ (Classical.propDecidable _) h).symm
 ·rw [decide_eq_false (p:=c.row≠[]∧zbp c.row=c.row) h];exact (@decide_eq_false _ (Classical.propDecidable _) h).symm
theorem quk [Dfr]:∀p:List (Nat×Nat×T),(zaz p).1.length≤p.length
 |[]=>by simp [zaz]
 |x::p=>by
  have ih:=quk p;rw [zaz];split
  ·simp;omega
  ·split
   ·simp;omega
   ·simp;omega
theorem yon [Dfr] {t:T} (hok:t.ok) {i k:Nat} {y:List Nd} (h:y∈(zaz (t.path i k)).1):∃c:T,c.ok∧c.size≤t.size∧y=c.row:=by obtain ⟨x,hx,h7,rfl⟩:=quj h;exact (yby t i k hok x hx).2 h7
noncomputable def qej (t:T) (k:Nat):Bool:= !(zaz (t.path 0 k)).2||(zaz (t.path 0 k)).1.any dmL
theorem yhv [Dfr] [zda] {l:List Nd} {t:T} (ht:tree l=some t) (hl:l.length≤1000000) (hs:setL l) {k:Nat} (hk:k∈t.wts 0):zxq l (k:Int)=some (qej t k):=by
 obtain ⟨hok,hrow⟩:=zht.1 ht;have hlen:l.length=t.size:=by rw [hrow,T.zab]
 refine yln ht hl hs hk dmL (fun x hx=> ?_) ?_
 ·obtain ⟨c,c1,c2,rfl⟩:=yon hok hx;exact xid c1 (by omega)
 ·have h1:=quk (t.path 0 k);have h2:=T.zsa t 0 k;omega
theorem qhn [Dfr] (t:T):(t.wts 0).length≤t.size:=by rw [znd t.row t 0 [] (by rw [List.drop_zero,List.append_nil])];have:=List.length_filter_le (fun k=>zcw (t.row.getD k default).1&& !qei (t.path 0 k)) (List.range' 0 t.size);rw [List.length_range'] at this;exact this
def tabW:List (Int×List (Int×Nat)):=[(1,[(1,zay)]),(6,[(2,zay),(3,zay)]),(4,[(4,zay),(5,zfu)]),(10,[(4,zay),(5,zfu)])]
class zew [Dfr]:Prop where
 ways:zpp=some tabW
def zjm (kd:Int) (at_:Int) (free:Bool):List Mv:=
 if kd=1 then [(at_,1)] else if kd=6 then [(at_,2),(at_,3)] else (at_,4)::(if free=true then [(at_,5)] else [])
theorem qso [Dfr] (kd at_:Int) (f:Bool):(zjm kd at_ f).length≤2:=by
 unfold zjm;split
 ·simp
 ·split
  ·simp
  ·split<;>simp
theorem yvj [Dfr] {kd x:Int} {f:Bool}:(∀p∈zjm kd x f,p.1=x)∧True:=by
 unfold zjm;split
 ·simp
 ·split
  ·simp
  ·split<;>simp
theorem zqu [Dfr] (l:List Nd) (tb:List (Int×List (Int×Nat))) (at_:Int) (y11:List Int) (y12 y13:Int) (ws:List (Int×Nat)) (hw:ws.length≤1000) (ok:Nat→Bool)
 (hd:∀w∈ws,dyn E ⟨w.2,[]⟩ [.one (.slice 68 (.pair (.int .i64) (.pair .str (.int .i64))) l .no),.one (.int .i64 at_)] .bool=some (ok w.2)):∀(r:List (Int×Nat)) (i:Nat) (acc:List Mv),ws.drop i=r→acc.length+r.length≤4000000→
 zgp l tb acc at_ y11 y12 y13 ws (ws.length:Int) (i:Int)=some (0,(l,tb,acc++(r.filter fun w=>ok w.2).map fun w=>(at_,w.1),y11,y12,y13))
 |[],i,acc,h,ha=>by obtain ⟨h1,h2⟩:=drop_nil h;rw [zur];simp only [h2,cond_false];simp
 |w::r,i,acc,h,ha=>by
  obtain ⟨h1,h2,h3,h4,h5,h6⟩:=zae h;have hm:=hd w (List.mem_of_mem_drop (by rw [h];exact List.mem_cons_self ..));simp only [List.length_cons] at ha;rw [zur];simp only [h2,h3,h4,cond_true,hm,Option.bind_some,zbj (show i<9223372036854775807 by omega)];rw [List.filter_cons];cases ho:ok w.2 with
  |true=>simp only [cond_true,room (show (acc.length+1)*16≤140737488355328 by omega),if_true];rw [zqu l tb at_ y11 y12 y13 ws hw ok hd r (i+1) _ h5 (by simp;omega)];simp
  |false=>simp only [cond_false,Bool.false_eq_true,if_false];rw [zqu l tb at_ y11 y12 y13 ws hw ok hd r (i+1) _ h5 (by omega)]
theorem qoc [Dfr] (l:List Nd) (at_:Int) (y11:List Int) (y12 y13:Int) (kd:Int) (hk:zcw kd=true) (f:Bool) (hf:zxq l at_=some f) (acc:List Mv) (ha:acc.length≤3000000):
 zgp l tabW acc at_ y11 y12 y13 (zmy tabW kd) ((zmy tabW kd).length:Int) 0=some (0,(l,tabW,acc++zjm kd at_ f,y11,y12,y13)):=by
 have ha':dyn E ⟨zay,[]⟩ [.one (.slice 68 (.pair (.int .i64) (.pair .str (.int .i64))) l .no),.one (.int .i64 at_)] .bool=some true:=(qsp l at_).trans (qvz l at_);have hf':dyn E ⟨zfu,[]⟩ [.one (.slice 68 (.pair (.int .i64) (.pair .str (.int .i64))) l .no),.one (.int .i64 at_)] .bool=some f:=(ycx l at_).trans hf;have key:∀ws:List (Int×Nat),zmy tabW kd=ws→(∀w∈ws,w.2=zay∨w.2=zfu)→ws.length≤2→
  zgp l tabW acc at_ y11 y12 y13 (zmy tabW kd) ((zmy tabW kd).length:Int) 0=some (0,(l,tabW,acc++(ws.filter fun w=>if w.2=zfu then f else true).map fun w=>(at_,w.1),y11,y12,y13)):=fun ws e hm hl=>by
  have:=zqu l tabW at_ y11 y12 y13 ws (by omega) (fun q=>if q=zfu then f else true) (fun w hw=>by
   rcases hm w hw with h|h
   ·rw [h,ha',if_neg (by decide)]
   ·rw [h,hf',if_pos rfl]) ws 0 acc rfl (by omega)
  rw [Int.natCast_zero] at this;rw [e];exact this
 unfold zcw at hk;have hk:=of_decide_eq_true hk;have d1:¬zay=zfu:=by decide
 rcases hk with rfl|rfl|rfl|rfl
 ·rw [key [(1,zay)] rfl (by simp) (by simp)];simp [zjm,d1]
 ·rw [key [(2,zay),(3,zay)] rfl (by simp) (by simp)];simp [zjm,d1]
 ·rw [key [(4,zay),(5,zfu)] rfl (by simp) (by simp)];cases f<;>simp [zjm,d1]
 ·rw [key [(4,zay),(5,zfu)] rfl (by simp) (by simp)];cases f<;>simp [zjm,d1]
theorem zqv [Dfr] (l:List Nd) (xs:List Int) (hx:xs.length≤1000000) (fr:Int→Bool) (hk:∀x∈xs,zaa x l.length=true∧zcw (ix l x).1=true∧zxq l x=some (fr x)):∀(r:List Int) (i:Nat) (acc:List Mv),xs.drop i=r→acc.length≤2*i→
 zoe l tabW acc xs (xs.length:Int) (i:Int)=some (0,acc++r.flatMap fun x=>zjm (ix l x).1 x (fr x))
 |[],i,acc,h,ha=>by obtain ⟨h1,h2⟩:=drop_nil h;rw [zus];simp only [h2,cond_false];simp
 |x::r,i,acc,h,ha=>by obtain ⟨h1,h2,h3,h4,h5,h6⟩:=zae h;obtain ⟨k1,k2,k3⟩:=hk x (List.mem_of_mem_drop (by rw [h];exact List.mem_cons_self ..));have hl:=qso (ix l x).1 x (fr x);rw [zus];simp only [h2,h3,h4,cond_true,k1,qoc l x xs (xs.length:Int) (i:Int) (ix l x).1 k2 (fr x) k3 acc (by omega),Option.bind_some,zbj (show i<9223372036854775807 by omega)];rw [zqv l xs hx fr hk r (i+1) _ h5 (by rw [List.length_append];omega)];simp
noncomputable def mvsT (l:List Nd) (t:T):List Mv:=(t.wts 0).flatMap fun k=>zjm (l.getD k default).1 (k:Int) (qej t k)
theorem yml [Dfr] {l:List Nd} {t:T} (ht:tree l=some t) {k:Nat} (hk:k∈t.wts 0):k<l.length∧zcw (l.getD k default).1=true:=by obtain ⟨hok,hrow⟩:=zht.1 ht;rw [znd l t 0 [] (by rw [List.drop_zero,List.append_nil];exact hrow),List.mem_filter] at hk;obtain ⟨h1,h2⟩:=hk;rw [List.mem_range'_1] at h1;rw [Bool.and_eq_true] at h2;exact ⟨by rw [hrow,T.zab];omega,h2.1⟩
theorem ymk [Dfr] {l:List Nd} {t:T} (ht:tree l=some t) {x:Int} (hx:x∈(t.wts 0).map fun (k:Nat)=>(k:Int)):zaa x l.length=true∧zcw (ix l x).1=true∧ix l x=l.getD x.toNat default:=by
 obtain ⟨k,hk,rfl⟩:=List.mem_map.1 hx;obtain ⟨h1,h2⟩:=yml ht hk;have h3:ix l (k:Int)=l.getD k default:=by rw [qfg h1,List.getD_eq_getElem?_getD,List.getElem?_eq_getElem h1];rfl
 exact ⟨ztl h1,by rw [h3];exact h2,h3⟩
theorem qwa [Dfr] [zda] [zew] {l:List Nd} {t:T} (ht:tree l=some t) (hl:l.length≤1000000) (hs:setL l):zfr l=some (mvsT l t):=by
 obtain ⟨hok,hrow⟩:=zht.1 ht;have hlen:l.length=t.size:=by rw [hrow,T.zab]
 have hw:=qhn t;have e:=zqv l ((t.wts 0).map fun (k:Nat)=>(k:Int)) (by rw [List.length_map];omega) (fun x=>qej t x.toNat) (fun x hx=>by obtain ⟨k1,k2,_⟩:=ymk ht hx;obtain ⟨k,hk,rfl⟩:=List.mem_map.1 hx;exact ⟨k1,k2,yhv ht hl hs hk⟩) _ 0 [] rfl (by simp);rw [Int.natCast_zero] at e;rw [qca,qnd,zew.ways,Option.bind_some,qka ht hl hs,Option.bind_some,e,Option.bind_some,List.nil_append]
 congr 1
 show List.flatMap _ (List.drop 0 _)=_;unfold mvsT;rw [List.drop_zero,List.flatMap_map,List.flatMap_def,List.flatMap_def];refine congrArg List.flatten (List.map_congr_left fun k hk=> ?_);rw [(ymk ht (List.mem_map.2 ⟨k,hk,rfl⟩)).2.2];rfl
theorem qss [Dfr] [zda] [zew] {l:List Nd} (hl:l.length≤1000000) (hs:¬setL l):zfr l=some []:=by have e:=zqv l [] (by simp) (fun _=>false) (fun x hx=>by cases hx) [] 0 [] rfl (by simp);rw [Int.natCast_zero] at e;rw [qca,qnd,zew.ways,Option.bind_some,qws hl hs,Option.bind_some,e];rfl
noncomputable def enL (l:List Nd):List Mv:=match @decide (setL l) (Classical.propDecidable _),tree l with
 |true,some t=>mvsT l t
 |_,_=>[]
theorem qjw [Dfr] {l:List Nd} {t:T} (ht:tree l=some t) (hs:setL l):enL l=mvsT l t:=by unfold enL;rw [@decide_eq_true _ (Classical.propDecidable _) hs,ht]
theorem yhr [Dfr] {l:List Nd} (hs:¬setL l):enL l=[]:=by unfold enL;rw [@decide_eq_false _ (Classical.propDecidable _) hs]
theorem qdf [Dfr] {l:List Nd} (h:setL l):∃m:Tm,l=m.row∧m.fine∧m.size≤200∧(m.po=true∨m.qo=true)∧m.st=m∧sOf l=m.so∧tree l=some m.t:=by obtain ⟨m,hm,hf,h1,h2,h3,h4⟩:=yah h;exact ⟨m,hm,hf,h1,h2,h3,h4,by rw [hm];exact zpi (Tm.t_ok m)⟩
theorem zku [Dfr] [zda] [zew] (l:List Nd) (hl:l.length≤1000000):zfr l=some (enL l):=by
 by_cases hs:setL l
 ·obtain ⟨m,_,_,_,_,_,_,ht⟩:=qdf hs;rw [qwa ht hl hs,qjw ht hs]
 ·rw [qss hl hs,yhr hs]
theorem xbw [Dfr] (l:List Nd) (t:T):(mvsT l t).length≤2*t.size:=by
 have hw:=qhn t;unfold mvsT;have key:∀r:List Nat,(r.flatMap fun k=>zjm (l.getD k default).1 (k:Int) (qej t k)).length≤2*r.length:=fun r=>by
  induction r with
  |nil=>simp
  |cons k r ih=>have:=qso (l.getD k default).1 (k:Int) (qej t k);simp only [List.flatMap_cons,List.length_append,List.length_cons];omega
 have:=key (t.wts 0);omega
theorem qlx [Dfr] (l:List Nd):(enL l).length≤400:=by
 by_cases hs:setL l
 ·obtain ⟨m,hm,_,hz,_,_,_,ht⟩:=qdf hs;rw [qjw ht hs];have:=xbw l m.t;have h2:m.t.size=m.size:=by rw [←T.zab];exact Tm.zab m
  omega
 ·rw [yhr hs];simp
theorem yvk [Dfr] [zda] [zew] (l:List Nd) (m:Mv) (hl:l.length≤1000000):ykp l m=some (decide (m∈enL l)):=by have h:=qlx l;rw [yqj,zku l hl,Option.bind_some,zsw _ _ (by omega)];rfl
def yqd (n:Int) (k:Nat):Nat:=(if n.tmod (k:Int)<0 then n.tmod (k:Int)+(k:Int) else n.tmod (k:Int)).toNat
theorem ynh [Dfr] (n:Int) {k:Nat} (hk:0<k):yqd n k<k∧(if n.tmod (k:Int)<0 then n.tmod (k:Int)+(k:Int) else n.tmod (k:Int))=(yqd n k:Int):=by
 have h1:=Int.tmod_lt_of_pos n (show (0:Int)<(k:Int) by omega);have h2: -(k:Int)<n.tmod (k:Int):=by have:=Int.tmod_lt_of_pos (-n) (show (0:Int)<(k:Int) by omega);rw [Int.neg_tmod] at this;omega
 unfold yqd;split<;>omega
noncomputable def zhj (l:List Mv) (n:Int):Mv×Int:=if l=[] then ((0,0),120) else (l.getD (yqd n l.length) default,0)
theorem ygm [Dfr] (r1:List Mv) (x1:Int) (h:r1.length≤4000000):
 (bif ((r1.length:Int)==0) then (some (((0,0):Mv),(120:Int))) else (bif ((r1.length:Int)==0) then (none) else (bif (decide ((x1.tmod (r1.length:Int))<0)) then (bif (zaa (w64 ((x1.tmod (r1.length:Int))+(r1.length:Int))) r1.length) then (some (ix r1 (w64 ((x1.tmod (r1.length:Int))+(r1.length:Int))),0)) else (none)) else (bif (zaa (x1.tmod (r1.length:Int)) r1.length) then (some (ix r1 (x1.tmod (r1.length:Int)),0)) else (none)))))=some (zhj r1 x1):=by
 unfold zhj;cases r1 with
 |nil=>rfl
 |cons a r=>
  generalize hL:a::r=L at h ⊢;have hpos:0<L.length:=by rw [←hL];simp
  have h0:((L.length:Int)==0)=false:=by rw [beq_eq_false_iff_ne];omega
  rw [if_neg (show ¬L=[] from fun h=>by rw [h] at hpos;simp at hpos)];simp only [h0,cond_false];obtain ⟨h1,h2⟩:=ynh x1 hpos;have h3:ix L ((yqd x1 L.length:Nat):Int)=L.getD (yqd x1 L.length) default:=by rw [qfg h1,List.getD_eq_getElem?_getD,List.getElem?_eq_getElem h1];rfl
  by_cases hn:x1.tmod (L.length:Int)<0
  ·rw [if_pos hn] at h2;rw [decide_eq_true hn,cond_true,zgz (by omega) (by omega),h2,ztl h1,h3];rfl
  ·rw [if_neg hn] at h2;rw [decide_eq_false hn,cond_false,h2,ztl h1,h3];rfl
theorem yko [Dfr] [zda] [zew] (l:List Nd) (n:Int) (hl:l.length≤1000000):qsr l n=some (zhj (enL l) n):=by have h:=qlx l;rw [ygw,zku l hl,Option.bind_some];exact ygm _ _ (by omega)
open Go Go.Sv Go.Proofs Go.Rd Go.RowKit Go.Shelf
set_option maxRecDepth 100000
attribute [local go_sem] Oper.semAt_some
def setO (w:World) (b:Nat) (o:Obj):World:={w with heap:=w.heap.setIfInBounds b o}
theorem ytg [Dfr] (w:World) (b:Nat) (o:Obj):(setO w b o).heap.size=w.heap.size:=by simp [setO]
theorem qdh [Dfr] {P:Program} {t kt et:TypeId} {b clock:Nat} {es:Array MapEntry} {n:Int} (v:Value) {w:World} (hu:P.underlying t=some (.map kt et)) (hk:P.underlying kt=some (.int .i64)) (hb:w.heap[b]? =some (.map es clock))
 (hf:Instr.findNow (.int .i64) (.int .i64 n) es.toList 0=some none):(Instr.mapUpdate t (.map (some b)) (.int .i64 n) v).run P w= .ok () (setO w b (.map (es.push ⟨.int .i64 n,v,clock⟩) (clock+1))):=by
 have hck:(Instr.checkKey false 10000 kt (.int .i64 n)).run P w= .ok () w:=by rw [show (10000:Nat)=9999+1 from rfl];unfold Instr.checkKey;simp [run_underlying hk]
 have hgo:(getObj b).run P w= .ok (.map es clock) w:=by simp [getObj,Sem.run,hb]
 unfold Instr.mapUpdate;simp [run_underlying hu,run_underlying hk,hgo,hck,Instr.findKey,hf,Go.setObj,Sem.run,hb,setO]
theorem xlo [Dfr] (w:World) (A M S:Obj):(((w.alloc A).alloc M).alloc S).heap[w.heap.size+1]? =some M:=by show (((w.heap.push A).push M).push S)[w.heap.size+1]? =some M;rw [Array.getElem?_push,if_neg (by simp),Array.getElem?_push,if_pos (by simp)]
theorem xln [Dfr] (w:World) (A M S M1 S2:Obj):((setO (((w.alloc A).alloc M).alloc S) (w.heap.size+1) M1).alloc S2).heap[w.heap.size+1]? =some M1:=by show (((((w.heap.push A).push M).push S).setIfInBounds (w.heap.size+1) M1).push S2)[w.heap.size+1]? =some M1;rw [Array.getElem?_push,if_neg (by simp),Array.getElem?_setIfInBounds,if_pos rfl,if_pos (by simp)]
theorem xke [Dfr] (w:World) (b:Nat) (o:Obj) (h:b<w.heap.size):(setO w b o).heap[b]? =some o:=by simp [setO,Array.getElem?_setIfInBounds,h]
def endW (w:World) (A M S1 M1 S2 M2 M3 M4:Obj):World:=setO (setO (setO ((setO (((w.alloc A).alloc M).alloc S1) (w.heap.size+1) M1).alloc S2) (w.heap.size+1) M2) (w.heap.size+1) M3) (w.heap.size+1) M4
abbrev give (w:World):Obj:=.cells #[.int .i64 4,.func (.func 99) #[] #[],.int .i64 5,.func (.func 100) #[] #[]] 95
abbrev one1:Obj:=.cells #[.int .i64 1,.func (.func 99) #[] #[]] 95
abbrev two6:Obj:=.cells #[.int .i64 2,.func (.func 99) #[] #[],.int .i64 3,.func (.func 99) #[] #[]] 95
abbrev en1 (w:World):MapEntry:=⟨.int .i64 1,.slice (some ⟨w.heap.size+1+1,0,none⟩) 1 1,0⟩
abbrev en6 (w:World):MapEntry:=⟨.int .i64 6,.slice (some ⟨w.heap.size+1+1+1,0,none⟩) 2 2,1⟩
abbrev en4 (w:World):MapEntry:=⟨.int .i64 4,.slice (some ⟨w.heap.size,0,none⟩) 2 2,2⟩
abbrev en10 (w:World):MapEntry:=⟨.int .i64 10,.slice (some ⟨w.heap.size,0,none⟩) 2 2,3⟩
set_option maxHeartbeats 3200000 in
theorem ysb [Dfr] (w:World):Calls Tryz.prog 59 #[] w fun e w'=>e= .returned (.map (some (w.heap.size+1)))∧
 w'=endW w (give w) (.map #[] 0) one1 (.map #[en1 w] 1) two6 (.map #[en1 w,en6 w] 2) (.map #[en1 w,en6 w,en4 w] 3) (.map #[en1 w,en6 w,en4 w,en10 w] 4):=by
 have hmm:= @run_makeMap Tryz.prog;have hsz:=ytg;go_enter Tryz.func59,Tryz.ntmps59;go_wp2;rw [qdh (es:= #[]) (clock:=0) _ Tryz.underlying89 Tryz.underlying3 (xlo w _ _ _) rfl];go_wp2;rw [qdh (clock:=1) _ Tryz.underlying89 Tryz.underlying3 (xln w _ _ _ _ _) rfl];go_wp2;rw [qdh (clock:=2) _ Tryz.underlying89 Tryz.underlying3 (xke _ _ _ (by simp [-World.alloc_eq,setO,World.alloc])) rfl];go_wp2;rw [qdh (clock:=3) _ Tryz.underlying89 Tryz.underlying3 (xke _ _ _ (by simp [-World.alloc_eq,setO,World.alloc])) rfl];go_wp2;go_ret;exact ⟨rfl,rfl⟩
theorem zmv [Dfr] {α:Type} (H:Array α) (x v:α) {i:Nat} (h:i<H.size):(H.push x).setIfInBounds i v=(H.setIfInBounds i v).push x:=by
 refine Array.ext_getElem? fun j=> ?_
 simp only [Array.getElem?_setIfInBounds,Array.getElem?_push,Array.size_push,Array.size_setIfInBounds]
 repeat' split
 all_goals first|rfl|omega
theorem zyo [Dfr] {α:Type} (H:Array α) (x v:α) {i:Nat} (h:i=H.size):(H.push x).setIfInBounds i v=H.push v:=by
 refine Array.ext_getElem? fun j=> ?_
 simp only [Array.getElem?_setIfInBounds,Array.getElem?_push,Array.size_push]
 repeat' split
 all_goals first|rfl|omega
theorem yti [Dfr] (w:World) (b:Nat) (o:Obj):(setO w b o).heap=w.heap.setIfInBounds b o:=rfl
theorem yrj [Dfr] (w:World) (o:Obj):(w.alloc o).heap=w.heap.push o:=rfl
theorem yth [Dfr] (w:World) (b:Nat) (o:Obj):(setO w b o).os=w.os∧(setO w b o).tape=w.tape∧(setO w b o).output=w.output∧(setO w b o).drawn=w.drawn:=⟨rfl,rfl,rfl,rfl⟩
theorem yri [Dfr] (w:World) (o:Obj):(w.alloc o).os=w.os∧(w.alloc o).tape=w.tape∧(w.alloc o).output=w.output∧(w.alloc o).drawn=w.drawn:=⟨rfl,rfl,rfl,rfl⟩
theorem ywp [Dfr] (w:World) (A M S1 M1 S2 M2 M3 M4:Obj):(endW w A M S1 M1 S2 M2 M3 M4).os=w.os∧(endW w A M S1 M1 S2 M2 M3 M4).tape=w.tape∧(endW w A M S1 M1 S2 M2 M3 M4).output=w.output∧(endW w A M S1 M1 S2 M2 M3 M4).drawn=w.drawn:=by unfold endW;simp only [yth,yri,and_self]
theorem ywq [Dfr] (w:World) (A M S1 M1 S2 M2 M3 M4:Obj):(endW w A M S1 M1 S2 M2 M3 M4).heap=(((w.heap.push A).push M4).push S1).push S2:=by
 unfold endW;simp only [yti,yrj];have e:w.heap.size+1=(w.heap.push A).size:=by simp
 have l1:∀M:Obj,w.heap.size+1<((w.heap.push A).push M).size:=fun M=>by simp
 have l2:∀M S:Obj,w.heap.size+1<(((w.heap.push A).push M).push S).size:=fun M S=>by simp
 rw [zmv _ _ _ (l1 _),zyo _ _ _ e,zmv _ _ _ (l2 _ _),zmv _ _ _ (l1 _),zyo _ _ _ e,zmv _ _ _ (l2 _ _),zmv _ _ _ (l1 _),zyo _ _ _ e,zmv _ _ _ (l2 _ _),zmv _ _ _ (l1 _),zyo _ _ _ e]
theorem four [Dfr] (H:Array Obj) (a b c d:Obj) {K:Array Obj} (hK:K=(((H.push a).push b).push c).push d):
 K[H.size]? =some a∧K[H.size+1]? =some b∧K[H.size+1+1]? =some c∧K[H.size+1+1+1]? =some d∧(∀k,k<H.size→K[k]? =H[k]?)∧K.size=H.size+4:=by
 subst hK;refine ⟨?_,?_,?_,?_,fun k hk=> ?_,by simp⟩
 ·rw [Array.getElem?_push,if_neg (by simp;omega),Array.getElem?_push,if_neg (by simp;omega),Array.getElem?_push,if_neg (by simp),Array.getElem?_push,if_pos rfl]
 ·rw [Array.getElem?_push,if_neg (by simp),Array.getElem?_push,if_neg (by simp),Array.getElem?_push,if_pos (by simp)]
 ·rw [Array.getElem?_push,if_neg (by simp),Array.getElem?_push,if_pos (by simp)]
 ·rw [Array.getElem?_push,if_pos (by simp)]
 ·rw [Array.getElem?_push,if_neg (by simp;omega),Array.getElem?_push,if_neg (by simp;omega),Array.getElem?_push,if_neg (by simp;omega),Array.getElem?_push,if_neg (by omega)]
theorem ylr [Dfr] {F:Nat→Prop} {w:World} {e tid b:Nat} {xs:List (Int×Nat)} {cur:Array Value} (hh:w.heap[b]? =some (.cells cur tid (0,0))) (hF:¬F b)
 (hc:∀i x,xs[i]? =some x→cur[i*2]? =some (.int .i64 x.1)∧cur[i*2+1]? =some (.func (.func x.2) #[] #[])):Cl F w (.slice e (.pair (.int .i64) .fn)) xs [.slice (some ⟨b,0,none⟩) xs.length xs.length]:=by
 rw [Cl];refine ⟨some ⟨b,0,none⟩,xs.length,rfl,Nat.le_refl _,.inr ⟨⟨b,0,none⟩,rfl,hF,fun i x hi=> ?_⟩⟩;obtain ⟨h1,h2⟩:=hc i x hi;refine ⟨[.int .i64 x.1,.func (.func x.2) #[] #[]],?_,fun j v hj=> ?_⟩
 ·rw [Cl];exact ⟨[_],[_],rfl,by rw [Cl],by rw [Cl]⟩
 ·rw [zjf,cell_of_block hh,Nat.zero_add]
  match j,hj with
  |0,hj=>cases hj;exact h1
  |1,hj=>cases hj;exact h2
theorem qht [Dfr]:zdw Tryz.prog E 59 () tabW:=by
 intro w F0 G A vs hA;obtain rfl:vs=[]:=by have h:=hA.rel;cases h;rfl
 refine (ysb w).mono ?_;rintro e w' ⟨rfl,rfl⟩;generalize hW:endW w (give w) (.map #[] 0) one1 (.map #[en1 w] 1) two6 (.map #[en1 w,en6 w] 2) (.map #[en1 w,en6 w,en4 w] 3) (.map #[en1 w,en6 w,en4 w,en10 w] 4)=W;have hheap:W.heap=(((w.heap.push (give w)).push (.map #[en1 w,en6 w,en4 w,en10 w] 4)).push one1).push two6:=by rw [←hW];exact ywq ..
 obtain ⟨b0,b1,b2,b3,bk,bs⟩:=four _ _ _ _ _ hheap;obtain ⟨r1,r2,r3,r4⟩:=ywp w (give w) (.map #[] 0) one1 (.map #[en1 w] 1) two6 (.map #[en1 w,en6 w] 2) (.map #[en1 w,en6 w,en4 w] 3) (.map #[en1 w,en6 w,en4 w,en10 w] 4);rw [hW] at r1 r2 r3 r4;have hk:Kept G w W:=⟨r1,r2,r3,by rw [bs];omega,fun k hk _=>bk k hk,by rw [r4];exact Nat.le_refl _⟩;refine ⟨_,rfl,hk,fun d=>⟨⟨fun _=>none,fun _=>none⟩,?_,fun _=>rfl,fun n b l h=>(by cases h),fun n n' b l l' h=>(by cases h)⟩⟩;have hF:∀b,w.heap.size≤b→¬(Fr.F ⟨fun _=>none,fun _=>none⟩ F0) b:=fun b hb h=>by
  rcases h with h|⟨d,h⟩|⟨n,l,h⟩
  ·have:=(hA.f0 b h).1;omega
  ·cases h
  ·cases h
 have g4:Cl (Fr.F ⟨fun _=>none,fun _=>none⟩ F0) W (.slice 95 (.pair (.int .i64) .fn)) [(4,zay),(5,zfu)] [.slice (some ⟨w.heap.size,0,none⟩) 2 2]:=
  ylr b0 (hF _ (Nat.le_refl _)) fun i x h=>by
   match i,h with
   |0,h=>cases h;exact ⟨rfl,rfl⟩
   |1,h=>cases h;exact ⟨rfl,rfl⟩
 have g1:Cl (Fr.F ⟨fun _=>none,fun _=>none⟩ F0) W (.slice 95 (.pair (.int .i64) .fn)) [(1,zay)] [.slice (some ⟨w.heap.size+1+1,0,none⟩) 1 1]:=
  ylr b2 (hF _ (by omega)) fun i x h=>by
   match i,h with
   |0,h=>cases h;exact ⟨rfl,rfl⟩
 have g6:Cl (Fr.F ⟨fun _=>none,fun _=>none⟩ F0) W (.slice 95 (.pair (.int .i64) .fn)) [(2,zay),(3,zay)] [.slice (some ⟨w.heap.size+1+1+1,0,none⟩) 2 2]:=
  ylr b3 (hF _ (by omega)) fun i x h=>by
   match i,h with
   |0,h=>cases h;exact ⟨rfl,rfl⟩
   |1,h=>cases h;exact ⟨rfl,rfl⟩
 exact .inr ⟨rfl,w.heap.size+1,_,4,rfl,hF _ (by omega),b1,.cons ⟨rfl,g1⟩ (.cons ⟨rfl,g6⟩ (.cons ⟨rfl,g4⟩ (.cons ⟨rfl,g4⟩ .nil)))⟩
theorem qlb [Dfr] (k:Int) (j:Nat) (hj:j≤1):ybd k (j:Int)=some (decide (j<goK k)):=by
 rw [yjv];have hz:((j:Int)==0)=decide (j<1):=by rcases Nat.le_one_iff_eq_zero_or_eq_one.1 hj with rfl|rfl<;>rfl
 by_cases h1:k=5; · rw [h1];show some _=_;rw [hz];rfl
 by_cases h2:k=8; · rw [h2];show some _=_;rw [hz];rfl
 by_cases h3:k=12; · rw [h3];show some _=_;rw [hz];rfl
 by_cases h4:k=13; · rw [h4];show some _=_;rw [hz];rfl
 by_cases h5:k=9; · rw [h5];show some _=_;rw [hz];rfl
 by_cases h6:k=7
 ·rw [h6];show some true=some (decide (j<2));rw [decide_eq_true (by omega)]
 have e:goK k=0:=by unfold goK;rw [if_neg (by omega),if_neg h6]
 rw [e];have f:∀c:Int,¬k=c→(k==c)=false:=fun c h=>by rw [beq_eq_false_iff_ne];exact h
 simp only [f 5 h1,f 8 h2,f 12 h3,f 13 h4,f 9 h5,f 7 h6,cond_false];rfl
theorem rk0 [Dfr] {n:Nd} (h:(T.n0 n).ok):zfd (T.n0 n).row=some []:=by rw [zkq _ (by rw [T.zab];simp [T.size])];unfold zfl;rw [qfo h];rfl
theorem rk1 [Dfr] {n:Nd} {a:T} (h:(T.n1 n a).ok) (hl:(T.n1 n a).size≤4611686018427387904):zfd (T.n1 n a).row=some [a.row]:=by rw [zkq _ (by rw [T.zab];exact hl)];unfold zfl;rw [qfo h];rfl
theorem rk2 [Dfr] {n:Nd} {a b:T} (h:(T.n2 n a b).ok) (hl:(T.n2 n a b).size≤4611686018427387904):zfd (T.n2 n a b).row=some [a.row,b.row]:=by rw [zkq _ (by rw [T.zab];exact hl)];unfold zfl;rw [qfo h];rfl
theorem yhg [Dfr] (t:T):ix t.row 0=t.hd∧zaa 0 t.row.length=true:=by cases t<;>exact ⟨rfl,zax (by simp [T.row])⟩
theorem yor [Dfr] (k:Int) (a:T) (i:Nat) (hi:i+a.size≤4000000) (ha:zmw a.row (i:Int)=some ((a.wts i).map fun (k:Nat)=>(k:Int))) (hl:(a.wts i).length≤1000000):
 zei [] k [a.row] (i:Int) 0=some (0,(if 0<goK k then a.wts i else []).map fun (k:Nat)=>(k:Int)):=by
 have i0:ix [a.row] 0=a.row:=rfl;have j0:zaa 0 [a.row].length=true:=rfl;have on0:=qlb k 0 (by omega);rw [Int.natCast_zero] at on0;have hw:w64 ((i:Int)+(a.row.length:Int))=((i+a.size:Nat):Int):=by rw [T.zab,zgz (by omega) (by omega)];omega
 have fin:∀acc,zei acc k [a.row] ((i+a.size:Nat):Int) 1=some (0,acc):=fun acc=>by rw [zgm];rfl
 rw [zgm,show decide ((0:Int)<([a.row].length:Int))=true from rfl];simp only [cond_true,on0,Option.bind_some,i0,j0,hw,ha,List.length_nil,List.length_map,room (show (0+(a.wts i).length)*8≤140737488355328 by omega),List.nil_append,show w64 (0+1)=1 from rfl,fin];by_cases hg:0<goK k
 ·rw [decide_eq_true hg,if_pos hg];rfl
 ·rw [decide_eq_false hg,if_neg hg];rfl
theorem yoq [Dfr] (k:Int) (a b:T) (i:Nat) (hi:i+a.size+b.size≤4000000) (ha:zmw a.row (i:Int)=some ((a.wts i).map fun (k:Nat)=>(k:Int))) (hb:zmw b.row ((i+a.size:Nat):Int)=some ((b.wts (i+a.size)).map fun (k:Nat)=>(k:Int))) (hl:(a.wts i).length≤1000000) (hl2:(b.wts (i+a.size)).length≤1000000):
 zei [] k [a.row,b.row] (i:Int) 0=some (0,((if 0<goK k then a.wts i else [])++(if 1<goK k then b.wts (i+a.size) else [])).map fun (k:Nat)=>(k:Int)):=by
 have i0:ix [a.row,b.row] 0=a.row:=rfl;have j0:zaa 0 [a.row,b.row].length=true:=rfl;have i1:ix [a.row,b.row] 1=b.row:=rfl;have j1:zaa 1 [a.row,b.row].length=true:=rfl;have on0:=qlb k 0 (by omega);have on1:=qlb k 1 (by omega);rw [Int.natCast_zero] at on0;rw [show ((1:Nat):Int)=1 from rfl] at on1;have hw:w64 ((i:Int)+(a.row.length:Int))=((i+a.size:Nat):Int):=by rw [T.zab,zgz (by omega) (by omega)];omega
 have hw2:w64 (((i+a.size:Nat):Int)+(b.row.length:Int))=((i+a.size+b.size:Nat):Int):=by rw [T.zab,zgz (by omega) (by omega)];omega
 have fin:∀acc,zei acc k [a.row,b.row] ((i+a.size+b.size:Nat):Int) 2=some (0,acc):=fun acc=>by rw [zgm];rfl
 have one:∀acc:List Int,acc.length≤1000000→zei acc k [a.row,b.row] ((i+a.size:Nat):Int) 1=some (0,acc++(if 1<goK k then b.wts (i+a.size) else []).map fun (k:Nat)=>(k:Int)):=fun acc hacc=>by
  rw [zgm,show decide ((1:Int)<([a.row,b.row].length:Int))=true from rfl];simp only [cond_true,on1,Option.bind_some,i1,j1,hw2,hb,List.length_map,room (show (acc.length+(b.wts (i+a.size)).length)*8≤140737488355328 by omega),show w64 (1+1)=2 from rfl,fin];by_cases hg:1<goK k
  ·rw [decide_eq_true hg,if_pos hg];rfl
  ·rw [decide_eq_false hg,if_neg hg];simp
 rw [zgm,show decide ((0:Int)<([a.row,b.row].length:Int))=true from rfl];simp only [cond_true,on0,Option.bind_some,i0,j0,hw,ha,List.length_nil,List.length_map,room (show (0+(a.wts i).length)*8≤140737488355328 by omega),List.nil_append,show w64 (0+1)=1 from rfl];rw [one _ (by rw [List.length_map];exact hl),one _ (by simp),List.map_append];by_cases hg:0<goK k
 ·rw [decide_eq_true hg,if_pos hg];rfl
 ·rw [decide_eq_false hg,if_neg hg];rfl
theorem qyv [Dfr] (t:T) (i:Nat):(t.wts i).length≤t.size:=by have:=qhm t 0 i;rw [Nat.zero_add] at this;rw [this,List.length_map];exact qhn t
theorem zrt [Dfr]:∀(t:T) (i:Nat),t.ok→i+t.size≤1000000→zmw t.row (i:Int)=some ((t.wts i).map fun (k:Nat)=>(k:Int))
 | .n0 n,i,hok,hs=>by
   obtain ⟨e,e2⟩:=yhg (.n0 n);have l0:zei [] n.1 [] (w64 ((i:Int)+1)) 0=some (0,[]):=by rw [zgm];rfl
   rw [zvs,e,e2,rk0 hok];simp only [Option.bind_some,cond_true,T.hd,l0];rcases ar0 hok with h|h|h|h|h<;>(rw [T.wts,h];rfl)
 | .n1 n a,i,hok,hs=>by
   obtain ⟨e,e2⟩:=yhg (.n1 n a);simp only [T.size] at hs;have ha:=zrt a (i+1) hok.2 (by omega);have hl:=qyv a (i+1);have hw:w64 ((i:Int)+1)=((i+1:Nat):Int):=by rw [zgz (by omega) (by omega)];omega
   have l0:=yor n.1 a (i+1) (by omega) ha (by omega);rw [zvs,e,e2,rk1 hok (by simp only [T.size];omega)];simp only [Option.bind_some,cond_true,T.hd,hw,l0];rcases ar1 hok.1 with h|h<;>(rw [T.wts,h];rfl)
 | .n2 n a b,i,hok,hs=>by
   obtain ⟨e,e2⟩:=yhg (.n2 n a b);simp only [T.size] at hs;have ha:=zrt a (i+1) hok.2.1 (by omega);have hb:=zrt b (i+1+a.size) hok.2.2 (by omega);have hl:=qyv a (i+1);have hl2:=qyv b (i+1+a.size);have hw:w64 ((i:Int)+1)=((i+1:Nat):Int):=by rw [zgz (by omega) (by omega)];omega
   have l0:=yoq n.1 a b (i+1) (by omega) ha hb (by omega) (by omega);rw [zvs,e,e2,rk2 hok (by simp only [T.size];omega)];simp only [Option.bind_some,cond_true,T.hd,hw,l0];rcases ar2 hok.1 with h|h|h|h|h|h|h<;>(rw [T.wts,h];rfl)
theorem ztc [Dfr] (l:List Nd) (hl:l.length≤1000000) (hn:∀n∈l,n.2.1.size≤9223372036854775807):zru l=some (decide (l≠[]∧zbp l=l)):=by
 have h2:=qgb l;rw [qny];by_cases h:l=[]
 ·subst h;rfl
 ·have hpos:0<l.length:=List.length_pos_iff.2 h;rw [decide_eq_true (show (l.length:Int)>0 by omega),cond_true,zvt l (by omega) hn,Option.bind_some,zuo _ _ (by omega),Option.bind_some]
  congr 1
  exact decide_eq_decide.2 ⟨fun h'=>⟨h,h'⟩,fun h'=>h'.2⟩
theorem qbq [Dfr]:∀(t:T),t.ok→t.size≤1000000000→znm t.row=some t.bang
 | .n0 n,hok,hl=>by obtain ⟨e,e2⟩:=yhg (.n0 n);rw [zyw,rk0 hok];simp only [Option.bind_some,e,e2,cond_true,T.hd];rcases ar0 hok with h|h|h|h|h<;>rw [T.bang,h]<;>rfl
 | .n1 n a,hok,hl=>by obtain ⟨e,e2⟩:=yhg (.n1 n a);rw [zyw,rk1 hok (by omega)];simp only [Option.bind_some,e,e2,cond_true,T.hd];rcases ar1 hok.1 with h|h<;>rw [T.bang,h]<;>rfl
 | .n2 n a b,hok,hl=>by obtain ⟨e,e2⟩:=yhg (.n2 n a b);have e3:ix [a.row,b.row] 0=a.row:=rfl;have e4:ix [a.row,b.row] 1=b.row:=rfl;have i0:zaa 0 [a.row,b.row].length=true:=rfl;have i1:zaa 1 [a.row,b.row].length=true:=rfl;have hl':=hl;simp only [T.size] at hl;have ha:=qbq a hok.2.1 (by omega);have hb:=qbq b hok.2.2 (by omega);rw [zyw,rk2 hok (by omega)];simp only [Option.bind_some,e,e2,e3,e4,i0,i1,cond_true,ha,hb,T.hd];rcases ar2 hok.1 with h|h|h|h|h|h|h<;>rw [T.bang,h]<;>first|rfl|(cases a.bang<;>rfl)
theorem xax [Dfr] {c:T} (hok:c.ok) (hs:c.size≤1000000) (hn:∀n∈c.row,n.2.1.size≤9223372036854775807):zum c.row=some (dmL c.row):=by
 rw [qrt,ztc _ (by rw [T.zab];exact hs) hn];unfold dmL;rw [zpi hok];by_cases h:setL c.row
 ·rw [decide_eq_true (p:=c.row≠[]∧zbp c.row=c.row) h,show @decide (setL c.row) (Classical.propDecidable _)=true from @decide_eq_true _ (Classical.propDecidable _) h];simp only [Option.bind_some,cond_true,Bool.true_and];rw [qbq c hok (by omega)];rfl
 ·rw [decide_eq_false (p:=c.row≠[]∧zbp c.row=c.row) h,show @decide (setL c.row) (Classical.propDecidable _)=false from @decide_eq_false _ (Classical.propDecidable _) h];rfl
theorem qex [Dfr] {l:List Nd} {t:T} (ht:tree l=some t) (hl:l.length≤1000000) (hn:∀n∈l,n.2.1.size≤9223372036854775807) (hs:setL l):zqf l=some ((t.wts 0).map fun (k:Nat)=>(k:Int)):=by
 obtain ⟨hok,hrow⟩:=zht.1 ht;have hlen:l.length=t.size:=by rw [hrow,T.zab]
 have hw:=zrt t 0 hok (by omega);rw [Int.natCast_zero] at hw;rw [qbr,ztc l hl hn,decide_eq_true (p:=l≠[]∧zbp l=l) hs];simp only [Option.bind_some,Bool.not_true,cond_false];rw [hrow,hw];rfl
theorem qru [Dfr] {l:List Nd} (hl:l.length≤1000000) (hn:∀n∈l,n.2.1.size≤9223372036854775807) (hs:¬setL l):zqf l=some []:=by rw [qbr,ztc l hl hn,decide_eq_false (p:=l≠[]∧zbp l=l) hs];rfl
theorem qmw [Dfr] (xs:List Int) (x:Int) (b:Bool) (hx:xs.length≤1000000):∀(r:List Int) (i:Nat),xs.drop i=r→zyv xs x b (i:Int)=some (if x∈r then (1,true) else (0,b))
 |[],i,h=>by obtain ⟨h1,h2⟩:=drop_nil h;rw [qeu];simp only [h2,cond_false];simp
 |y::r,i,h=>by
  obtain ⟨h1,h2,h3,h4,h5,h6⟩:=zae h;rw [qeu];simp only [h2,h3,h4,cond_true,zbj (show i<9223372036854775807 by omega),qmw xs x b hx r (i+1) h5];by_cases e:y=x
  ·subst e;simp
  ·rw [show (y==x)=false by simpa using e];simp [show ¬x=y from fun h=>e h.symm]
theorem ypx [Dfr] (xs:List Int) (x:Int) (hx:xs.length≤1000000):ybe xs x=some (decide (x∈xs)):=by have e:=qmw xs x false hx xs 0 rfl;rw [Int.natCast_zero] at e;rw [yjw,e,Option.bind_some];by_cases h:x∈xs<;>simp [h,Nat.beq]
theorem qev [Dfr] (xs ys:List Int) (b:Bool) (hx:xs.length≤1000000) (hl:xs.length=ys.length):∀(r:List Int) (i:Nat),xs.drop i=r→zrv xs ys b (i:Int)=some (if r=ys.drop i then (0,b) else (1,false))
 |[],i,h=>by obtain ⟨h1,h2⟩:=drop_nil h;rw [qad];have:ys.drop i=[]:=List.drop_eq_nil_of_le (by omega);simp only [h2,cond_false];simp [this]
 |x::r,i,h=>by
  obtain ⟨h1,h2,h3,h4,h5,h6⟩:=zae h;obtain ⟨y,s,hy⟩:∃y s,ys.drop i=y::s:=by
   cases e:ys.drop i with
   |nil=>have:=drop_nil e;omega
   |cons y s=>exact ⟨y,s,rfl⟩
  obtain ⟨k1,k2,k3,k4,k5,k6⟩:=zae hy;rw [qad];simp only [h2,h3,h4,k3,k4,cond_true,zbj (show i<9223372036854775807 by omega),qev xs ys b hx hl r (i+1) h5,hy,k5];by_cases e:x=y
  ·subst e;by_cases e2:r=s<;>simp [e2]
  ·rw [show (x != y)=true by simpa using e,cond_true,if_neg (fun h=>e (List.cons.inj h).1)]
theorem yft [Dfr] (xs ys:List Int) (hx:xs.length≤1000000):qdl xs ys=some (decide (xs=ys)):=by
 rw [ybf];by_cases hl:xs.length=ys.length
 ·have h1:((xs.length:Int) != (ys.length:Int))=false:=by simp [hl]
  have:=qev xs ys false hx hl xs 0 rfl;simp only [Int.natCast_zero,List.drop_zero] at this;simp only [h1,cond_false,this,Option.bind_some];by_cases e:xs=ys<;>simp [e,Nat.beq]
 ·have h1:((xs.length:Int) != (ys.length:Int))=true:=by simp;omega
  have h2:xs≠ys:=fun e=>hl (by rw [e])
  simp [h1,h2]
theorem yuw [Dfr] (l:List Nd) (a:T) (i k:Nat) (hk:k<i+a.size) (hi:i+a.size≤4000000):znz l (k:Int) [a.row] (i:Int) 0=some (0,(l,(k:Int),[a.row],(i:Int),0)):=by rw [zqs];have i0:ix [a.row] 0=a.row:=rfl;have j0:zaa 0 [a.row].length=true:=rfl;simp only [i0,j0,cond_true,T.zab];rw [zgz (by omega) (by omega),decide_eq_false (by omega)];rfl
theorem yuv [Dfr] (l:List Nd) (a b:T) (i k:Nat) (hk:k<i+a.size+b.size) (hi:i+a.size+b.size≤4000000):znz l (k:Int) [a.row,b.row] (i:Int) 0=some (0,(l,(k:Int),[a.row,b.row],if k<i+a.size then ((i:Int),0) else (((i+a.size:Nat):Int),1))):=by
 have i0:ix [a.row,b.row] 0=a.row:=rfl;have j0:zaa 0 [a.row,b.row].length=true:=rfl;have i1:ix [a.row,b.row] 1=b.row:=rfl;have j1:zaa 1 [a.row,b.row].length=true:=rfl;rw [zqs];simp only [i0,j0,cond_true,T.zab];rw [zgz (n:=(i:Int)+(a.size:Int)) (by omega) (by omega)];by_cases h:k<i+a.size
 ·rw [decide_eq_false (by omega),if_pos h];rfl
 ·rw [decide_eq_true (by omega),if_neg h,cond_true,show w64 (0+1)=1 from rfl,zqs];simp only [i1,j1,cond_true,T.zab];rw [zgz (by omega) (by omega),decide_eq_false (by omega),show (i:Int)+(a.size:Int)=((i+a.size:Nat):Int) by omega];rfl
theorem zul [Dfr]:∀(t:T) (i k:Nat),t.ok→i≤k→k<i+t.size→i+t.size≤1000000→qdk t.row (i:Int) (k:Int)=some (zaz (t.path i k))
 | .n0 n,i,k,hok,h1,h2,h3=>by
   simp only [T.size] at h2;have:k=i:=by omega
   subst this;rw [zyx,beq_self_eq_true];rfl
 | .n1 n a,i,k,hok,h1,h2,h3=>by
   simp only [T.size] at h2 h3;rw [zyx,T.zqt];by_cases e:k=i
   ·subst e;rw [beq_self_eq_true,if_pos rfl];rfl
   ·rw [show ((i:Int)==(k:Int))=false by rw [beq_eq_false_iff_ne];omega,if_neg e,cond_false,rk1 hok (by simp only [T.size];omega)];have hw:w64 ((i:Int)+1)=((i+1:Nat):Int):=by rw [zgz (by omega) (by omega)];omega
    have ih:=zul a (i+1) k hok.2 (by omega) (by omega) (by omega);obtain ⟨eh,eh2⟩:=yhg (.n1 n a);simp only [Option.bind_some,hw,yuw _ a (i+1) k (by omega) (by omega),show ix [a.row] 0=a.row from rfl,show zaa 0 [a.row].length=true from rfl,cond_true,ih,eh,eh2,T.hd];have h7:(n.1==7)=false:=by rcases ar1 hok.1 with h|h<;>rw [h]<;>rfl
    rw [h7,zaz];cases hb:(zaz (a.path (i+1) k)).2 with
    |true=>simp only [cond_true,if_true]
    |false=>simp only [cond_false,Bool.false_eq_true,if_false];rw [if_neg (show ¬(T.n1 n a).hd.1=7 from fun h=>by rw [show (T.n1 n a).hd=n from rfl] at h;rw [h] at h7;cases h7)];rfl
 | .n2 n a b,i,k,hok,h1,h2,h3=>by
   simp only [T.size] at h2 h3;rw [zyx,T.zif];by_cases e:k=i
   ·subst e;rw [beq_self_eq_true,if_pos rfl];rfl
   ·rw [show ((i:Int)==(k:Int))=false by rw [beq_eq_false_iff_ne];omega,if_neg e,cond_false,rk2 hok (by simp only [T.size];omega)];have hw:w64 ((i:Int)+1)=((i+1:Nat):Int):=by rw [zgz (by omega) (by omega)];omega
    obtain ⟨eh,eh2⟩:=yhg (.n2 n a b);have i0:ix [a.row,b.row] 0=a.row:=rfl;have j0:zaa 0 [a.row,b.row].length=true:=rfl;have i1:ix [a.row,b.row] 1=b.row:=rfl;have j1:zaa 1 [a.row,b.row].length=true:=rfl;simp only [Option.bind_some,hw,yuv _ a b (i+1) k (by omega) (by omega)];by_cases hlt:k<i+1+a.size
    ·have ih:=zul a (i+1) k hok.2.1 (by omega) (by omega) (by omega);have hroom:=quk (a.path (i+1) k);have hroom2:=T.zsa a (i+1) k;rw [if_pos hlt,if_pos hlt];simp only [i0,j0,cond_true,ih,Option.bind_some,eh,eh2,T.hd,show w64 (1-0)=1 from rfl,i1,j1,room (show ((zaz (a.path (i+1) k)).1.length+1)*24≤140737488355328 by omega)];rw [zaz];cases hb:(zaz (a.path (i+1) k)).2 with
     |true=>simp only [cond_true,if_true]
     |false=>
      simp only [cond_false,Bool.false_eq_true,if_false];by_cases h7:n.1=7
      ·rw [show (n.1==7)=true by rw [h7];rfl,show (n.1==9)=false by rw [h7];rfl,if_pos (show (T.n2 n a b).hd.1=7 from h7)];rfl
      ·rw [show (n.1==7)=false by rw [beq_eq_false_iff_ne];exact h7,if_neg (show ¬(T.n2 n a b).hd.1=7 from h7)];rfl
    ·have ih:=zul b (i+1+a.size) k hok.2.2 (by omega) (by omega) (by omega);have hroom:=quk (b.path (i+1+a.size) k);have hroom2:=T.zsa b (i+1+a.size) k;rw [if_neg hlt,if_neg hlt];simp only [i1,j1,cond_true,ih,Option.bind_some,eh,eh2,T.hd,show w64 (1-1)=0 from rfl,i0,j0,room (show ((zaz (b.path (i+1+a.size) k)).1.length+1)*24≤140737488355328 by omega)];rw [zaz];cases hb:(zaz (b.path (i+1+a.size) k)).2 with
     |true=>simp only [cond_true,if_true]
     |false=>
      simp only [cond_false,Bool.false_eq_true,if_false];by_cases h7:n.1=7
      ·rw [show (n.1==7)=true by rw [h7];rfl,show (n.1==9)=false by rw [h7];rfl,if_pos (show (T.n2 n a b).hd.1=7 from h7)];rfl
      ·rw [show (n.1==7)=false by rw [beq_eq_false_iff_ne];exact h7,if_neg (show ¬(T.n2 n a b).hd.1=7 from h7)];rfl
theorem qew [Dfr] (xs:List (List Nd)) (hx:xs.length≤1000000) (hd:∀x∈xs,zum x=some (dmL x)):∀(r:List (List Nd)) (i:Nat) (b:Bool),xs.drop i=r→zoa xs b (i:Int)=some (0,b||r.any dmL)
 |[],i,b,h=>by obtain ⟨h1,h2⟩:=drop_nil h;rw [qae];simp only [h2,cond_false];simp
 |x::r,i,b,h=>by
  obtain ⟨h1,h2,h3,h4,h5,h6⟩:=zae h;have hm:=hd x (List.mem_of_mem_drop (by rw [h];exact List.mem_cons_self ..));rw [qae];simp only [h2,h3,h4,cond_true,hm,Option.bind_some,zbj (show i<9223372036854775807 by omega),qew xs hx hd r (i+1) _ h5];cases b with
  |true=>simp
  |false=>simp
theorem ybg [Dfr] {l:List Nd} {t:T} (ht:tree l=some t) (hl:l.length≤1000000) (hn:∀n∈l,n.2.1.size≤9223372036854775807) (hnm:∀c:T,c.ok→(∃k,c.row∈(zaz (t.path 0 k)).1)→∀n∈c.row,n.2.1.size≤9223372036854775807) (hs:setL l) {k:Nat} (hk:k∈t.wts 0):qdm l (k:Int)=some (qej t k):=by
 obtain ⟨hok,hrow⟩:=zht.1 ht;have hlen:l.length=t.size:=by rw [hrow,T.zab]
 have hkr:=qar t 0 k hk;have hw:=qhn t;have hp:=zul t 0 k hok (by omega) (by omega) (by omega);rw [Int.natCast_zero] at hp;have h1:=quk (t.path 0 k);have h2:=T.zsa t 0 k;have e:=qew (zaz (t.path 0 k)).1 (by omega) (fun x hx=>by obtain ⟨c,c1,c2,rfl⟩:=yon hok hx;exact xax c1 (by omega) (hnm c c1 ⟨k,hx⟩)) (zaz (t.path 0 k)).1 0 (!(zaz (t.path 0 k)).2) rfl;rw [Int.natCast_zero] at e;rw [ybh,qex ht hl hn hs,Option.bind_some,ypx _ _ (by rw [List.length_map];omega),decide_eq_true (List.mem_map.2 ⟨k,hk,rfl⟩)];simp only [Option.bind_some,Bool.not_true,cond_false];rw [hrow,hp,Option.bind_some,e];rfl
theorem yqe [Dfr] {l:List Nd} {t:T} (ht:tree l=some t) (hn:∀n∈l,n.2.1.size≤9223372036854775807):∀c:T,c.ok→(∃k,c.row∈(zaz (t.path 0 k)).1)→∀n∈c.row,n.2.1.size≤9223372036854775807:=fun c hc ⟨k,hk⟩ n hnc=>by
 obtain ⟨hok,hrow⟩:=zht.1 ht;have sub:∀(t:T) (i:Nat),t.ok→∀x∈t.path i k,x.2.2.hd.1=7→∀n∈x.2.2.kid (1-x.2.1),n∈t.row:=by
  intro t
  induction t with
  |n0 n=>intro i _ x hx;cases hx
  |n1 n a ih=>
   intro i hok x hx h7 m hm;rw [T.zqt] at hx;split at hx
   ·cases hx
   ·rcases List.mem_cons.1 hx with rfl|hx
    ·exfalso;have h7:n.1=7:=h7;have:=hok.1;rw [h7] at this;cases this
    ·exact List.mem_cons_of_mem _ (ih (i+1) hok.2 x hx h7 m hm)
  |n2 n a b iha ihb=>
   intro i hok x hx h7 m hm;rw [T.zif] at hx;split at hx
   ·cases hx
   ·split at hx
    ·rcases List.mem_cons.1 hx with rfl|hx
     ·exact List.mem_cons_of_mem _ (List.mem_append_right _ hm)
     ·exact List.mem_cons_of_mem _ (List.mem_append_left _ (iha (i+1) hok.2.1 x hx h7 m hm))
    ·rcases List.mem_cons.1 hx with rfl|hx
     ·exact List.mem_cons_of_mem _ (List.mem_append_left _ hm)
     ·exact List.mem_cons_of_mem _ (List.mem_append_right _ (ihb (i+1+a.size) hok.2.2 x hx h7 m hm))
 obtain ⟨x,hx,h7,e⟩:=quj hk;rw [e] at hnc;have:=sub t 0 hok x hx h7 n hnc;rw [←hrow] at this;exact hn n this
end Go.Proofs.YtjolkdjkhekbnaaGreatDoor.Sv
