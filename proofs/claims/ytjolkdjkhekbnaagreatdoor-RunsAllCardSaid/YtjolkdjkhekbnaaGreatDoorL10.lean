/- The laws of settling: what each tells. -/
import Derived.Test.YtjolkdjkhekbnaaGreatDoorW03r
set_option linter.unusedVariables false
set_option linter.unusedSimpArgs false
namespace Go.Proofs.YtjolkdjkhekbnaaGreatDoor.Sv
open Go Go.Sv Go.Rd
theorem zqz [Dfr] {m:Tm} (hf:m.fine) (hs:m.size≤200) (ho:m.po=true∨m.qo=true):zbl m.row=m.st.row:=by unfold zbl;rw [zih.2 ⟨rfl,hf,hs⟩];simp [ho]
theorem qed [Dfr] (l:List Nd):(zbl l).length≤200:=by
 unfold zbl;split
 ·rename_i m hm;split
  ·have:=m.zbz;have:=(zih.1 hm).2.2;rw [Tm.zac];omega
  ·simp
 ·simp
theorem qgs [Dfr] (l:List Nd):zbl l=[]∨∃m:Tm,l=m.row∧m.fine∧m.size≤200∧(m.po=true∨m.qo=true)∧zbl l=m.st.row∧sOf l=m.so:=by
 unfold zbl sOf;cases h:tmOf l with
 |none=>exact .inl rfl
 |some m=>
  obtain ⟨rfl,h2,h3⟩:=zih.1 h;by_cases ho:m.po=true∨m.qo=true
  ·exact .inr ⟨m,rfl,h2,h3,ho,by simp [ho],rfl⟩
  ·exact .inl (by simp [ho])
def setL (l:List Nd):Prop:=l≠[]∧zbl l=l
theorem qyv [Dfr] {l:List Nd} (h:setL l):∃m:Tm,l=m.row∧m.fine∧m.size≤200∧(m.po=true∨m.qo=true)∧m.st=m∧sOf l=m.so:=by
 obtain ⟨h0,h1⟩:=h;rcases qgs l with h2|⟨m,hm,hf,hs,ho,hst,hso⟩
 ·rw [h2] at h1;exact absurd h1.symm h0
 ·refine ⟨m,hm,hf,hs,ho,?_,hso⟩;rw [h1,hm] at hst;exact (Tm.qjm hst).symm
theorem qgf [Dfr] {m:Tm} (hf:m.fine) (hs:m.size≤200) (ho:m.po=true∨m.qo=true) (h:m.st=m):setL m.row:=by refine ⟨Tm.qvx _,?_⟩;rw [zqz hf hs ho,h]
noncomputable def dmL (x:List Nd):Bool:=(@decide (setL x) (Classical.propDecidable _))&&(match tree x with|some t=>t.bang|none=>false)
theorem xhj [Dfr] {c:T} (hok:c.ok) (hs:c.size≤1000000):zrt c.row=some (dmL c.row):=by
 rw [ybr (zpn hok) (by rw [T.zac];exact hs)];unfold dmL;rw [zpn hok]
 congr 2
 by_cases h:setL c.row
 ·rw [decide_eq_true (p:=c.row≠[]∧zbl c.row=c.row) h];exact (@decide_eq_true _ (Classical.propDecidable _) h).symm
 ·rw [decide_eq_false (p:=c.row≠[]∧zbl c.row=c.row) h];exact (@decide_eq_false _ (Classical.propDecidable _) h).symm
theorem qta [Dfr]:∀p:List (Nat×Nat×T),(zaq p).1.length≤p.length
 |[]=>by simp [zaq]
 |x::p=>by
  have ih:=qta p;rw [zaq];split
  ·simp;omega
  ·split
   ·simp;omega
   ·simp;omega
theorem yna [Dfr] {t:T} (hok:t.ok) {i k:Nat} {y:List Nd} (h:y∈(zaq (t.path i k)).1):∃c:T,c.ok∧c.size≤t.size∧y=c.row:=by obtain ⟨x,hx,h7,rfl⟩:=qsz h;exact (yat t i k hok x hx).2 h7
noncomputable def qfg (t:T) (k:Nat):Bool:= !(zaq (t.path 0 k)).2||(zaq (t.path 0 k)).1.any dmL
theorem ygk [Dfr] [zcd] {l:List Nd} {t:T} (ht:tree l=some t) (hl:l.length≤1000000) (hs:setL l) {k:Nat} (hk:k∈t.wts 0):zwa l (k:Int)=some (qfg t k):=by
 obtain ⟨hok,hrow⟩:=zga.1 ht;have hlen:l.length=t.size:=by rw [hrow,T.zac]
 refine yke ht hl hs hk dmL (fun x hx=> ?_) ?_
 ·obtain ⟨c,c1,c2,rfl⟩:=yna hok hx;exact xhj c1 (by omega)
 ·have h1:=qta (t.path 0 k);have h2:=T.zqb t 0 k;omega
theorem qfw [Dfr] (t:T):(t.wts 0).length≤t.size:=by rw [zle t.row t 0 [] (by rw [List.drop_zero,List.append_nil])];have:=List.length_filter_le (fun k=>zdo (t.row.getD k default).1&& !qcm (t.path 0 k)) (List.range' 0 t.size);rw [List.length_range'] at this;exact this
def tabW:List (Int×List (Int×Nat)):=[(1,[(1,zao)]),(6,[(2,zao),(3,zao)]),(4,[(4,zao),(5,zec)]),(10,[(4,zao),(5,zec)])]
class zdi [Dfr]:Prop where
 ways:zny=some tabW
def zic (kd:Int) (at_:Int) (free:Bool):List Mv:=
 if kd=1 then [(at_,1)] else if kd=6 then [(at_,2),(at_,3)] else (at_,4)::(if free=true then [(at_,5)] else [])
theorem qri [Dfr] (kd at_:Int) (f:Bool):(zic kd at_ f).length≤2:=by
 unfold zic;split
 ·simp
 ·split
  ·simp
  ·split<;>simp
theorem yuc [Dfr] {kd x:Int} {f:Bool}:(∀p∈zic kd x f,p.1=x)∧True:=by
 unfold zic;split
 ·simp
 ·split
  ·simp
  ·split<;>simp
theorem zpc [Dfr] (l:List Nd) (tb:List (Int×List (Int×Nat))) (at_:Int) (y11:List Int) (y12 y13:Int) (ws:List (Int×Nat)) (hw:ws.length≤1000) (ok:Nat→Bool)
 (hd:∀w∈ws,dyn E ⟨w.2,[]⟩ [.one (.slice 68 (.pair (.int .i64) (.pair .str (.int .i64))) l .no),.one (.int .i64 at_)] .bool=some (ok w.2)):∀(r:List (Int×Nat)) (i:Nat) (acc:List Mv),ws.drop i=r→acc.length+r.length≤4000000→
 zfb l tb acc at_ y11 y12 y13 ws (ws.length:Int) (i:Int)=some (0,(l,tb,acc++(r.filter fun w=>ok w.2).map fun w=>(at_,w.1),y11,y12,y13))
 |[],i,acc,h,ha=>by obtain ⟨h1,h2⟩:=drop_nil h;rw [zsw];simp only [h2,cond_false];simp
 |w::r,i,acc,h,ha=>by
  obtain ⟨h1,h2,h3,h4,h5,h6⟩:=zab h;have hm:=hd w (List.mem_of_mem_drop (by rw [h];exact List.mem_cons_self ..));simp only [List.length_cons] at ha;rw [zsw];simp only [h2,h3,h4,cond_true,hm,Option.bind_some,zar (show i<9223372036854775807 by omega)];rw [List.filter_cons];cases ho:ok w.2 with
  |true=>simp only [cond_true,room (show (acc.length+1)*16≤140737488355328 by omega),if_true];rw [zpc l tb at_ y11 y12 y13 ws hw ok hd r (i+1) _ h5 (by simp;omega)];simp
  |false=>simp only [cond_false,Bool.false_eq_true,if_false];rw [zpc l tb at_ y11 y12 y13 ws hw ok hd r (i+1) _ h5 (by omega)]
theorem qmz [Dfr] (l:List Nd) (at_:Int) (y11:List Int) (y12 y13:Int) (kd:Int) (hk:zdo kd=true) (f:Bool) (hf:zwa l at_=some f) (acc:List Mv) (ha:acc.length≤3000000):
 zfb l tabW acc at_ y11 y12 y13 (zla tabW kd) ((zla tabW kd).length:Int) 0=some (0,(l,tabW,acc++zic kd at_ f,y11,y12,y13)):=by
 have ha':dyn E ⟨zao,[]⟩ [.one (.slice 68 (.pair (.int .i64) (.pair .str (.int .i64))) l .no),.one (.int .i64 at_)] .bool=some true:=(qrj l at_).trans (quu l at_);have hf':dyn E ⟨zec,[]⟩ [.one (.slice 68 (.pair (.int .i64) (.pair .str (.int .i64))) l .no),.one (.int .i64 at_)] .bool=some f:=(ybq l at_).trans hf;have key:∀ws:List (Int×Nat),zla tabW kd=ws→(∀w∈ws,w.2=zao∨w.2=zec)→ws.length≤2→
  zfb l tabW acc at_ y11 y12 y13 (zla tabW kd) ((zla tabW kd).length:Int) 0=some (0,(l,tabW,acc++(ws.filter fun w=>if w.2=zec then f else true).map fun w=>(at_,w.1),y11,y12,y13)):=fun ws e hm hl=>by
  have:=zpc l tabW at_ y11 y12 y13 ws (by omega) (fun q=>if q=zec then f else true) (fun w hw=>by
   rcases hm w hw with h|h
   ·rw [h,ha',if_neg (by decide)]
   ·rw [h,hf',if_pos rfl]) ws 0 acc rfl (by omega)
  rw [Int.natCast_zero] at this;rw [e];exact this
 unfold zdo at hk;have hk:=of_decide_eq_true hk;have d1:¬zao=zec:=by decide
 rcases hk with rfl|rfl|rfl|rfl
 ·rw [key [(1,zao)] rfl (by simp) (by simp)];simp [zic,d1]
 ·rw [key [(2,zao),(3,zao)] rfl (by simp) (by simp)];simp [zic,d1]
 ·rw [key [(4,zao),(5,zec)] rfl (by simp) (by simp)];cases f<;>simp [zic,d1]
 ·rw [key [(4,zao),(5,zec)] rfl (by simp) (by simp)];cases f<;>simp [zic,d1]
theorem zpd [Dfr] (l:List Nd) (xs:List Int) (hx:xs.length≤1000000) (fr:Int→Bool) (hk:∀x∈xs,zaa x l.length=true∧zdo (ix l x).1=true∧zwa l x=some (fr x)):∀(r:List Int) (i:Nat) (acc:List Mv),xs.drop i=r→acc.length≤2*i→
 zmj l tabW acc xs (xs.length:Int) (i:Int)=some (0,acc++r.flatMap fun x=>zic (ix l x).1 x (fr x))
 |[],i,acc,h,ha=>by obtain ⟨h1,h2⟩:=drop_nil h;rw [zsx];simp only [h2,cond_false];simp
 |x::r,i,acc,h,ha=>by obtain ⟨h1,h2,h3,h4,h5,h6⟩:=zab h;obtain ⟨k1,k2,k3⟩:=hk x (List.mem_of_mem_drop (by rw [h];exact List.mem_cons_self ..));have hl:=qri (ix l x).1 x (fr x);rw [zsx];simp only [h2,h3,h4,cond_true,k1,qmz l x xs (xs.length:Int) (i:Int) (ix l x).1 k2 (fr x) k3 acc (by omega),Option.bind_some,zar (show i<9223372036854775807 by omega)];rw [zpd l xs hx fr hk r (i+1) _ h5 (by rw [List.length_append];omega)];simp
noncomputable def mvsT (l:List Nd) (t:T):List Mv:=(t.wts 0).flatMap fun k=>zic (l.getD k default).1 (k:Int) (qfg t k)
theorem yle [Dfr] {l:List Nd} {t:T} (ht:tree l=some t) {k:Nat} (hk:k∈t.wts 0):k<l.length∧zdo (l.getD k default).1=true:=by obtain ⟨hok,hrow⟩:=zga.1 ht;rw [zle l t 0 [] (by rw [List.drop_zero,List.append_nil];exact hrow),List.mem_filter] at hk;obtain ⟨h1,h2⟩:=hk;rw [List.mem_range'_1] at h1;rw [Bool.and_eq_true] at h2;exact ⟨by rw [hrow,T.zac];omega,h2.1⟩
theorem yld [Dfr] {l:List Nd} {t:T} (ht:tree l=some t) {x:Int} (hx:x∈(t.wts 0).map fun (k:Nat)=>(k:Int)):zaa x l.length=true∧zdo (ix l x).1=true∧ix l x=l.getD x.toNat default:=by
 obtain ⟨k,hk,rfl⟩:=List.mem_map.1 hx;obtain ⟨h1,h2⟩:=yle ht hk;have h3:ix l (k:Int)=l.getD k default:=by rw [qar h1,List.getD_eq_getElem?_getD,List.getElem?_eq_getElem h1];rfl
 exact ⟨zoq h1,by rw [h3];exact h2,h3⟩
theorem quv [Dfr] [zcd] [zdi] {l:List Nd} {t:T} (ht:tree l=some t) (hl:l.length≤1000000) (hs:setL l):zgt l=some (mvsT l t):=by
 obtain ⟨hok,hrow⟩:=zga.1 ht;have hlen:l.length=t.size:=by rw [hrow,T.zac]
 have hw:=qfw t;have e:=zpd l ((t.wts 0).map fun (k:Nat)=>(k:Int)) (by rw [List.length_map];omega) (fun x=>qfg t x.toNat) (fun x hx=>by obtain ⟨k1,k2,_⟩:=yld ht hx;obtain ⟨k,hk,rfl⟩:=List.mem_map.1 hx;exact ⟨k1,k2,ygk ht hl hs hk⟩) _ 0 [] rfl (by simp);rw [Int.natCast_zero] at e;rw [qaq,qma,zdi.ways,Option.bind_some,qiq ht hl hs,Option.bind_some,e,Option.bind_some,List.nil_append]
 congr 1
 show List.flatMap _ (List.drop 0 _)=_;unfold mvsT;rw [List.drop_zero,List.flatMap_map,List.flatMap_def,List.flatMap_def];refine congrArg List.flatten (List.map_congr_left fun k hk=> ?_);rw [(yld ht (List.mem_map.2 ⟨k,hk,rfl⟩)).2.2];rfl
theorem qrm [Dfr] [zcd] [zdi] {l:List Nd} (hl:l.length≤1000000) (hs:¬setL l):zgt l=some []:=by have e:=zpd l [] (by simp) (fun _=>false) (fun x hx=>by cases hx) [] 0 [] rfl (by simp);rw [Int.natCast_zero] at e;rw [qaq,qma,zdi.ways,Option.bind_some,qvg hl hs,Option.bind_some,e];rfl
noncomputable def enL (l:List Nd):List Mv:=match @decide (setL l) (Classical.propDecidable _),tree l with
 |true,some t=>mvsT l t
 |_,_=>[]
theorem qmi [Dfr] {l:List Nd} {t:T} (ht:tree l=some t) (hs:setL l):enL l=mvsT l t:=by unfold enL;rw [@decide_eq_true _ (Classical.propDecidable _) hs,ht]
theorem ygg [Dfr] {l:List Nd} (hs:¬setL l):enL l=[]:=by unfold enL;rw [@decide_eq_false _ (Classical.propDecidable _) hs]
theorem qbm [Dfr] {l:List Nd} (h:setL l):∃m:Tm,l=m.row∧m.fine∧m.size≤200∧(m.po=true∨m.qo=true)∧m.st=m∧sOf l=m.so∧tree l=some m.t:=by obtain ⟨m,hm,hf,h1,h2,h3,h4⟩:=qyv h;exact ⟨m,hm,hf,h1,h2,h3,h4,by rw [hm];exact zpn (Tm.t_ok m)⟩
theorem zmk [Dfr] [zcd] [zdi] (l:List Nd) (hl:l.length≤1000000):zgt l=some (enL l):=by
 by_cases hs:setL l
 ·obtain ⟨m,_,_,_,_,_,_,ht⟩:=qbm hs;rw [quv ht hl hs,qmi ht hs]
 ·rw [qrm hl hs,ygg hs]
theorem xaw [Dfr] (l:List Nd) (t:T):(mvsT l t).length≤2*t.size:=by
 have hw:=qfw t;unfold mvsT;have key:∀r:List Nat,(r.flatMap fun k=>zic (l.getD k default).1 (k:Int) (qfg t k)).length≤2*r.length:=fun r=>by
  induction r with
  |nil=>simp
  |cons k r ih=>have:=qri (l.getD k default).1 (k:Int) (qfg t k);simp only [List.flatMap_cons,List.length_append,List.length_cons];omega
 have:=key (t.wts 0);omega
theorem qkg [Dfr] (l:List Nd):(enL l).length≤400:=by
 by_cases hs:setL l
 ·obtain ⟨m,hm,_,hz,_,_,_,ht⟩:=qbm hs;rw [qmi ht hs];have:=xaw l m.t;have h2:m.t.size=m.size:=by rw [←T.zac];exact Tm.zac m
  omega
 ·rw [ygg hs];simp
theorem yud [Dfr] [zcd] [zdi] (l:List Nd) (m:Mv) (hl:l.length≤1000000):yjg l m=some (decide (m∈enL l)):=by have h:=qkg l;rw [yow,zmk l hl,Option.bind_some,zqv _ _ (by omega)];rfl
def yfc (n:Int) (k:Nat):Nat:=(if n.tmod (k:Int)<0 then n.tmod (k:Int)+(k:Int) else n.tmod (k:Int)).toNat
theorem xas [Dfr] (n:Int) {k:Nat} (hk:0<k):yfc n k<k∧(if n.tmod (k:Int)<0 then n.tmod (k:Int)+(k:Int) else n.tmod (k:Int))=(yfc n k:Int):=by
 have h1:=Int.tmod_lt_of_pos n (show (0:Int)<(k:Int) by omega);have h2: -(k:Int)<n.tmod (k:Int):=by have:=Int.tmod_lt_of_pos (-n) (show (0:Int)<(k:Int) by omega);rw [Int.neg_tmod] at this;omega
 unfold yfc;split<;>omega
noncomputable def zrj (l:List Mv) (n:Int):Mv×Int:=if l=[] then ((0,0),120) else (l.getD (yfc n l.length) default,0)
theorem yti [Dfr] (r1:List Mv) (x1:Int) (h:r1.length≤4000000):
 (bif ((r1.length:Int)==0) then (some (((0,0):Mv),(120:Int))) else (bif ((r1.length:Int)==0) then (none) else (bif (decide ((x1.tmod (r1.length:Int))<0)) then (bif (zaa (w64 ((x1.tmod (r1.length:Int))+(r1.length:Int))) r1.length) then (some (ix r1 (w64 ((x1.tmod (r1.length:Int))+(r1.length:Int))),0)) else (none)) else (bif (zaa (x1.tmod (r1.length:Int)) r1.length) then (some (ix r1 (x1.tmod (r1.length:Int)),0)) else (none)))))=some (zrj r1 x1):=by
 unfold zrj;cases r1 with
 |nil=>rfl
 |cons a r=>
  generalize hL:a::r=L at h ⊢;have hpos:0<L.length:=by rw [←hL];simp
  have h0:((L.length:Int)==0)=false:=by rw [beq_eq_false_iff_ne];omega
  rw [if_neg (show ¬L=[] from fun h=>by rw [h] at hpos;simp at hpos)];simp only [h0,cond_false];obtain ⟨h1,h2⟩:=xas x1 hpos;have h3:ix L ((yfc x1 L.length:Nat):Int)=L.getD (yfc x1 L.length) default:=by rw [qar h1,List.getD_eq_getElem?_getD,List.getElem?_eq_getElem h1];rfl
  by_cases hn:x1.tmod (L.length:Int)<0
  ·rw [if_pos hn] at h2;rw [decide_eq_true hn,cond_true,zfi (by omega) (by omega),h2,zoq h1,h3];rfl
  ·rw [if_neg hn] at h2;rw [decide_eq_false hn,cond_false,h2,zoq h1,h3];rfl
theorem yjf [Dfr] [zcd] [zdi] (l:List Nd) (n:Int) (hl:l.length≤1000000):qrl l n=some (zrj (enL l) n):=by have h:=qkg l;rw [yfm,zmk l hl,Option.bind_some];exact yti _ _ (by omega)
open Go Go.Sv Go.Proofs Go.Rd Go.RowKit Go.Shelf
set_option maxRecDepth 100000
attribute [local go_sem] Oper.semAt_some
def setO (w:World) (b:Nat) (o:Obj):World:={w with heap:=w.heap.setIfInBounds b o}
theorem yrz [Dfr] (w:World) (b:Nat) (o:Obj):(setO w b o).heap.size=w.heap.size:=by simp [setO]
theorem qbo [Dfr] {P:Program} {t kt et:TypeId} {b clock:Nat} {es:Array MapEntry} {n:Int} (v:Value) {w:World} (hu:P.underlying t=some (.map kt et)) (hk:P.underlying kt=some (.int .i64)) (hb:w.heap[b]? =some (.map es clock))
 (hf:Instr.findNow (.int .i64) (.int .i64 n) es.toList 0=some none):(Instr.mapUpdate t (.map (some b)) (.int .i64 n) v).run P w= .ok () (setO w b (.map (es.push ⟨.int .i64 n,v,clock⟩) (clock+1))):=by
 have hck:(Instr.checkKey false 10000 kt (.int .i64 n)).run P w= .ok () w:=by rw [show (10000:Nat)=9999+1 from rfl];unfold Instr.checkKey;simp [run_underlying hk]
 have hgo:(getObj b).run P w= .ok (.map es clock) w:=by simp [getObj,Sem.run,hb]
 unfold Instr.mapUpdate;simp [run_underlying hu,run_underlying hk,hgo,hck,Instr.findKey,hf,Go.setObj,Sem.run,hb,setO]
theorem xkv [Dfr] (w:World) (A M S:Obj):(((w.alloc A).alloc M).alloc S).heap[w.heap.size+1]? =some M:=by show (((w.heap.push A).push M).push S)[w.heap.size+1]? =some M;rw [Array.getElem?_push,if_neg (by simp),Array.getElem?_push,if_pos (by simp)]
theorem xku [Dfr] (w:World) (A M S M1 S2:Obj):((setO (((w.alloc A).alloc M).alloc S) (w.heap.size+1) M1).alloc S2).heap[w.heap.size+1]? =some M1:=by show (((((w.heap.push A).push M).push S).setIfInBounds (w.heap.size+1) M1).push S2)[w.heap.size+1]? =some M1;rw [Array.getElem?_push,if_neg (by simp),Array.getElem?_setIfInBounds,if_pos rfl,if_pos (by simp)]
theorem xjj [Dfr] (w:World) (b:Nat) (o:Obj) (h:b<w.heap.size):(setO w b o).heap[b]? =some o:=by simp [setO,Array.getElem?_setIfInBounds,h]
def endW (w:World) (A M S1 M1 S2 M2 M3 M4:Obj):World:=setO (setO (setO ((setO (((w.alloc A).alloc M).alloc S1) (w.heap.size+1) M1).alloc S2) (w.heap.size+1) M2) (w.heap.size+1) M3) (w.heap.size+1) M4
abbrev give (w:World):Obj:=.cells #[.int .i64 4,.func (.func 99) #[] #[],.int .i64 5,.func (.func 100) #[] #[]] 95
abbrev one1:Obj:=.cells #[.int .i64 1,.func (.func 99) #[] #[]] 95
abbrev two6:Obj:=.cells #[.int .i64 2,.func (.func 99) #[] #[],.int .i64 3,.func (.func 99) #[] #[]] 95
abbrev en1 (w:World):MapEntry:=⟨.int .i64 1,.slice (some ⟨w.heap.size+1+1,0,none⟩) 1 1,0⟩
abbrev en6 (w:World):MapEntry:=⟨.int .i64 6,.slice (some ⟨w.heap.size+1+1+1,0,none⟩) 2 2,1⟩
abbrev en4 (w:World):MapEntry:=⟨.int .i64 4,.slice (some ⟨w.heap.size,0,none⟩) 2 2,2⟩
abbrev en10 (w:World):MapEntry:=⟨.int .i64 10,.slice (some ⟨w.heap.size,0,none⟩) 2 2,3⟩
set_option maxHeartbeats 3200000 in
theorem yqv [Dfr] (w:World):Calls Tryz.prog 59 #[] w fun e w'=>e= .returned (.map (some (w.heap.size+1)))∧
 w'=endW w (give w) (.map #[] 0) one1 (.map #[en1 w] 1) two6 (.map #[en1 w,en6 w] 2) (.map #[en1 w,en6 w,en4 w] 3) (.map #[en1 w,en6 w,en4 w,en10 w] 4):=by
 have hmm:= @run_makeMap Tryz.prog;have hsz:=yrz;go_enter Tryz.func59,Tryz.ntmps59;go_wp2;rw [qbo (es:= #[]) (clock:=0) _ Tryz.underlying89 Tryz.underlying3 (xkv w _ _ _) rfl];go_wp2;rw [qbo (clock:=1) _ Tryz.underlying89 Tryz.underlying3 (xku w _ _ _ _ _) rfl];go_wp2;rw [qbo (clock:=2) _ Tryz.underlying89 Tryz.underlying3 (xjj _ _ _ (by simp [-World.alloc_eq,setO,World.alloc])) rfl];go_wp2;rw [qbo (clock:=3) _ Tryz.underlying89 Tryz.underlying3 (xjj _ _ _ (by simp [-World.alloc_eq,setO,World.alloc])) rfl];go_wp2;go_ret;exact ⟨rfl,rfl⟩
theorem zkx [Dfr] {α:Type} (H:Array α) (x v:α) {i:Nat} (h:i<H.size):(H.push x).setIfInBounds i v=(H.setIfInBounds i v).push x:=by
 refine Array.ext_getElem? fun j=> ?_
 simp only [Array.getElem?_setIfInBounds,Array.getElem?_push,Array.size_push,Array.size_setIfInBounds]
 repeat' split
 all_goals first|rfl|omega
theorem zws [Dfr] {α:Type} (H:Array α) (x v:α) {i:Nat} (h:i=H.size):(H.push x).setIfInBounds i v=H.push v:=by
 refine Array.ext_getElem? fun j=> ?_
 simp only [Array.getElem?_setIfInBounds,Array.getElem?_push,Array.size_push]
 repeat' split
 all_goals first|rfl|omega
theorem ysb [Dfr] (w:World) (b:Nat) (o:Obj):(setO w b o).heap=w.heap.setIfInBounds b o:=rfl
theorem ypz [Dfr] (w:World) (o:Obj):(w.alloc o).heap=w.heap.push o:=rfl
theorem ysa [Dfr] (w:World) (b:Nat) (o:Obj):(setO w b o).os=w.os∧(setO w b o).tape=w.tape∧(setO w b o).output=w.output∧(setO w b o).drawn=w.drawn:=⟨rfl,rfl,rfl,rfl⟩
theorem ypy [Dfr] (w:World) (o:Obj):(w.alloc o).os=w.os∧(w.alloc o).tape=w.tape∧(w.alloc o).output=w.output∧(w.alloc o).drawn=w.drawn:=⟨rfl,rfl,rfl,rfl⟩
theorem yvn [Dfr] (w:World) (A M S1 M1 S2 M2 M3 M4:Obj):(endW w A M S1 M1 S2 M2 M3 M4).os=w.os∧(endW w A M S1 M1 S2 M2 M3 M4).tape=w.tape∧(endW w A M S1 M1 S2 M2 M3 M4).output=w.output∧(endW w A M S1 M1 S2 M2 M3 M4).drawn=w.drawn:=by unfold endW;simp only [ysa,ypy,and_self]
theorem yvo [Dfr] (w:World) (A M S1 M1 S2 M2 M3 M4:Obj):(endW w A M S1 M1 S2 M2 M3 M4).heap=(((w.heap.push A).push M4).push S1).push S2:=by
 unfold endW;simp only [ysb,ypz];have e:w.heap.size+1=(w.heap.push A).size:=by simp
 have l1:∀M:Obj,w.heap.size+1<((w.heap.push A).push M).size:=fun M=>by simp
 have l2:∀M S:Obj,w.heap.size+1<(((w.heap.push A).push M).push S).size:=fun M S=>by simp
 rw [zkx _ _ _ (l1 _),zws _ _ _ e,zkx _ _ _ (l2 _ _),zkx _ _ _ (l1 _),zws _ _ _ e,zkx _ _ _ (l2 _ _),zkx _ _ _ (l1 _),zws _ _ _ e,zkx _ _ _ (l2 _ _),zkx _ _ _ (l1 _),zws _ _ _ e]
theorem four [Dfr] (H:Array Obj) (a b c d:Obj) {K:Array Obj} (hK:K=(((H.push a).push b).push c).push d):
 K[H.size]? =some a∧K[H.size+1]? =some b∧K[H.size+1+1]? =some c∧K[H.size+1+1+1]? =some d∧(∀k,k<H.size→K[k]? =H[k]?)∧K.size=H.size+4:=by
 subst hK;refine ⟨?_,?_,?_,?_,fun k hk=> ?_,by simp⟩
 ·rw [Array.getElem?_push,if_neg (by simp;omega),Array.getElem?_push,if_neg (by simp;omega),Array.getElem?_push,if_neg (by simp),Array.getElem?_push,if_pos rfl]
 ·rw [Array.getElem?_push,if_neg (by simp),Array.getElem?_push,if_neg (by simp),Array.getElem?_push,if_pos (by simp)]
 ·rw [Array.getElem?_push,if_neg (by simp),Array.getElem?_push,if_pos (by simp)]
 ·rw [Array.getElem?_push,if_pos (by simp)]
 ·rw [Array.getElem?_push,if_neg (by simp;omega),Array.getElem?_push,if_neg (by simp;omega),Array.getElem?_push,if_neg (by simp;omega),Array.getElem?_push,if_neg (by omega)]
theorem ykj [Dfr] {F:Nat→Prop} {w:World} {e tid b:Nat} {xs:List (Int×Nat)} {cur:Array Value} (hh:w.heap[b]? =some (.cells cur tid (0,0))) (hF:¬F b)
 (hc:∀i x,xs[i]? =some x→cur[i*2]? =some (.int .i64 x.1)∧cur[i*2+1]? =some (.func (.func x.2) #[] #[])):Cl F w (.slice e (.pair (.int .i64) .fn)) xs [.slice (some ⟨b,0,none⟩) xs.length xs.length]:=by
 rw [Cl];refine ⟨some ⟨b,0,none⟩,xs.length,rfl,Nat.le_refl _,.inr ⟨⟨b,0,none⟩,rfl,hF,fun i x hi=> ?_⟩⟩;obtain ⟨h1,h2⟩:=hc i x hi;refine ⟨[.int .i64 x.1,.func (.func x.2) #[] #[]],?_,fun j v hj=> ?_⟩
 ·rw [Cl];exact ⟨[_],[_],rfl,by rw [Cl],by rw [Cl]⟩
 ·rw [zhj,cell_of_block hh,Nat.zero_add]
  match j,hj with
  |0,hj=>cases hj;exact h1
  |1,hj=>cases hj;exact h2
theorem qgc [Dfr]:zco Tryz.prog E 59 () tabW:=by
 intro w F0 G A vs hA;obtain rfl:vs=[]:=by have h:=hA.rel;cases h;rfl
 refine (yqv w).mono ?_;rintro e w' ⟨rfl,rfl⟩;generalize hW:endW w (give w) (.map #[] 0) one1 (.map #[en1 w] 1) two6 (.map #[en1 w,en6 w] 2) (.map #[en1 w,en6 w,en4 w] 3) (.map #[en1 w,en6 w,en4 w,en10 w] 4)=W;have hheap:W.heap=(((w.heap.push (give w)).push (.map #[en1 w,en6 w,en4 w,en10 w] 4)).push one1).push two6:=by rw [←hW];exact yvo ..
 obtain ⟨b0,b1,b2,b3,bk,bs⟩:=four _ _ _ _ _ hheap;obtain ⟨r1,r2,r3,r4⟩:=yvn w (give w) (.map #[] 0) one1 (.map #[en1 w] 1) two6 (.map #[en1 w,en6 w] 2) (.map #[en1 w,en6 w,en4 w] 3) (.map #[en1 w,en6 w,en4 w,en10 w] 4);rw [hW] at r1 r2 r3 r4;have hk:Kept G w W:=⟨r1,r2,r3,by rw [bs];omega,fun k hk _=>bk k hk,by rw [r4];exact Nat.le_refl _⟩;refine ⟨_,rfl,hk,fun d=>⟨⟨fun _=>none,fun _=>none⟩,?_,fun _=>rfl,fun n b l h=>(by cases h),fun n n' b l l' h=>(by cases h)⟩⟩;have hF:∀b,w.heap.size≤b→¬(Fr.F ⟨fun _=>none,fun _=>none⟩ F0) b:=fun b hb h=>by
  rcases h with h|⟨d,h⟩|⟨n,l,h⟩
  ·have:=(hA.f0 b h).1;omega
  ·cases h
  ·cases h
 have g4:Cl (Fr.F ⟨fun _=>none,fun _=>none⟩ F0) W (.slice 95 (.pair (.int .i64) .fn)) [(4,zao),(5,zec)] [.slice (some ⟨w.heap.size,0,none⟩) 2 2]:=
  ykj b0 (hF _ (Nat.le_refl _)) fun i x h=>by
   match i,h with
   |0,h=>cases h;exact ⟨rfl,rfl⟩
   |1,h=>cases h;exact ⟨rfl,rfl⟩
 have g1:Cl (Fr.F ⟨fun _=>none,fun _=>none⟩ F0) W (.slice 95 (.pair (.int .i64) .fn)) [(1,zao)] [.slice (some ⟨w.heap.size+1+1,0,none⟩) 1 1]:=
  ykj b2 (hF _ (by omega)) fun i x h=>by
   match i,h with
   |0,h=>cases h;exact ⟨rfl,rfl⟩
 have g6:Cl (Fr.F ⟨fun _=>none,fun _=>none⟩ F0) W (.slice 95 (.pair (.int .i64) .fn)) [(2,zao),(3,zao)] [.slice (some ⟨w.heap.size+1+1+1,0,none⟩) 2 2]:=
  ykj b3 (hF _ (by omega)) fun i x h=>by
   match i,h with
   |0,h=>cases h;exact ⟨rfl,rfl⟩
   |1,h=>cases h;exact ⟨rfl,rfl⟩
 exact .inr ⟨rfl,w.heap.size+1,_,4,rfl,hF _ (by omega),b1,.cons ⟨rfl,g1⟩ (.cons ⟨rfl,g6⟩ (.cons ⟨rfl,g4⟩ (.cons ⟨rfl,g4⟩ .nil)))⟩
theorem qjo [Dfr] (k:Int) (j:Nat) (hj:j≤1):qzr k (j:Int)=some (decide (j<goK k)):=by
 rw [yii];have hz:((j:Int)==0)=decide (j<1):=by rcases Nat.le_one_iff_eq_zero_or_eq_one.1 hj with rfl|rfl<;>rfl
 by_cases h1:k=5; · rw [h1];show some _=_;rw [hz];rfl
 by_cases h2:k=8; · rw [h2];show some _=_;rw [hz];rfl
 by_cases h3:k=12; · rw [h3];show some _=_;rw [hz];rfl
 by_cases h4:k=13; · rw [h4];show some _=_;rw [hz];rfl
 by_cases h5:k=9; · rw [h5];show some _=_;rw [hz];rfl
 by_cases h6:k=7
 ·rw [h6];show some true=some (decide (j<2));rw [decide_eq_true (by omega)]
 have e:goK k=0:=by unfold goK;rw [if_neg (by omega),if_neg h6]
 rw [e];have f:∀c:Int,¬k=c→(k==c)=false:=fun c h=>by rw [beq_eq_false_iff_ne];exact h
 simp only [f 5 h1,f 8 h2,f 12 h3,f 13 h4,f 9 h5,f 7 h6,cond_false];rfl
theorem rk0 [Dfr] {n:Nd} (h:(T.n0 n).ok):zcr (T.n0 n).row=some []:=by rw [zit _ (by rw [T.zac];simp [T.size])];unfold zea;rw [qds h];rfl
theorem rk1 [Dfr] {n:Nd} {a:T} (h:(T.n1 n a).ok) (hl:(T.n1 n a).size≤4611686018427387904):zcr (T.n1 n a).row=some [a.row]:=by rw [zit _ (by rw [T.zac];exact hl)];unfold zea;rw [qds h];rfl
theorem rk2 [Dfr] {n:Nd} {a b:T} (h:(T.n2 n a b).ok) (hl:(T.n2 n a b).size≤4611686018427387904):zcr (T.n2 n a b).row=some [a.row,b.row]:=by rw [zit _ (by rw [T.zac];exact hl)];unfold zea;rw [qds h];rfl
theorem yfv [Dfr] (t:T):ix t.row 0=t.hd∧zaa 0 t.row.length=true:=by cases t<;>exact ⟨rfl,zam (by simp [T.row])⟩
theorem yne [Dfr] (k:Int) (a:T) (i:Nat) (hi:i+a.size≤4000000) (ha:zky a.row (i:Int)=some ((a.wts i).map fun (k:Nat)=>(k:Int))) (hl:(a.wts i).length≤1000000):
 zcw [] k [a.row] (i:Int) 0=some (0,(if 0<goK k then a.wts i else []).map fun (k:Nat)=>(k:Int)):=by
 have i0:ix [a.row] 0=a.row:=rfl;have j0:zaa 0 [a.row].length=true:=rfl;have on0:=qjo k 0 (by omega);rw [Int.natCast_zero] at on0;have hw:w64 ((i:Int)+(a.row.length:Int))=((i+a.size:Nat):Int):=by rw [T.zac,zfi (by omega) (by omega)];omega
 have fin:∀acc,zcw acc k [a.row] ((i+a.size:Nat):Int) 1=some (0,acc):=fun acc=>by rw [zex];rfl
 rw [zex,show decide ((0:Int)<([a.row].length:Int))=true from rfl];simp only [cond_true,on0,Option.bind_some,i0,j0,hw,ha,List.length_nil,List.length_map,room (show (0+(a.wts i).length)*8≤140737488355328 by omega),List.nil_append,show w64 (0+1)=1 from rfl,fin];by_cases hg:0<goK k
 ·rw [decide_eq_true hg,if_pos hg];rfl
 ·rw [decide_eq_false hg,if_neg hg];rfl
theorem ynd [Dfr] (k:Int) (a b:T) (i:Nat) (hi:i+a.size+b.size≤4000000) (ha:zky a.row (i:Int)=some ((a.wts i).map fun (k:Nat)=>(k:Int))) (hb:zky b.row ((i+a.size:Nat):Int)=some ((b.wts (i+a.size)).map fun (k:Nat)=>(k:Int))) (hl:(a.wts i).length≤1000000) (hl2:(b.wts (i+a.size)).length≤1000000):
 zcw [] k [a.row,b.row] (i:Int) 0=some (0,((if 0<goK k then a.wts i else [])++(if 1<goK k then b.wts (i+a.size) else [])).map fun (k:Nat)=>(k:Int)):=by
 have i0:ix [a.row,b.row] 0=a.row:=rfl;have j0:zaa 0 [a.row,b.row].length=true:=rfl;have i1:ix [a.row,b.row] 1=b.row:=rfl;have j1:zaa 1 [a.row,b.row].length=true:=rfl;have on0:=qjo k 0 (by omega);have on1:=qjo k 1 (by omega);rw [Int.natCast_zero] at on0;rw [show ((1:Nat):Int)=1 from rfl] at on1;have hw:w64 ((i:Int)+(a.row.length:Int))=((i+a.size:Nat):Int):=by rw [T.zac,zfi (by omega) (by omega)];omega
 have hw2:w64 (((i+a.size:Nat):Int)+(b.row.length:Int))=((i+a.size+b.size:Nat):Int):=by rw [T.zac,zfi (by omega) (by omega)];omega
 have fin:∀acc,zcw acc k [a.row,b.row] ((i+a.size+b.size:Nat):Int) 2=some (0,acc):=fun acc=>by rw [zex];rfl
 have one:∀acc:List Int,acc.length≤1000000→zcw acc k [a.row,b.row] ((i+a.size:Nat):Int) 1=some (0,acc++(if 1<goK k then b.wts (i+a.size) else []).map fun (k:Nat)=>(k:Int)):=fun acc hacc=>by
  rw [zex,show decide ((1:Int)<([a.row,b.row].length:Int))=true from rfl];simp only [cond_true,on1,Option.bind_some,i1,j1,hw2,hb,List.length_map,room (show (acc.length+(b.wts (i+a.size)).length)*8≤140737488355328 by omega),show w64 (1+1)=2 from rfl,fin];by_cases hg:1<goK k
  ·rw [decide_eq_true hg,if_pos hg];rfl
  ·rw [decide_eq_false hg,if_neg hg];simp
 rw [zex,show decide ((0:Int)<([a.row,b.row].length:Int))=true from rfl];simp only [cond_true,on0,Option.bind_some,i0,j0,hw,ha,List.length_nil,List.length_map,room (show (0+(a.wts i).length)*8≤140737488355328 by omega),List.nil_append,show w64 (0+1)=1 from rfl];rw [one _ (by rw [List.length_map];exact hl),one _ (by simp),List.map_append];by_cases hg:0<goK k
 ·rw [decide_eq_true hg,if_pos hg];rfl
 ·rw [decide_eq_false hg,if_neg hg];rfl
theorem qxl [Dfr] (t:T) (i:Nat):(t.wts i).length≤t.size:=by have:=qfv t 0 i;rw [Nat.zero_add] at this;rw [this,List.length_map];exact qfw t
theorem zpw [Dfr]:∀(t:T) (i:Nat),t.ok→i+t.size≤1000000→zky t.row (i:Int)=some ((t.wts i).map fun (k:Nat)=>(k:Int))
 | .n0 n,i,hok,hs=>by
   obtain ⟨e,e2⟩:=yfv (.n0 n);have l0:zcw [] n.1 [] (w64 ((i:Int)+1)) 0=some (0,[]):=by rw [zex];rfl
   rw [ztt,e,e2,rk0 hok];simp only [Option.bind_some,cond_true,T.hd,l0];rcases ar0 hok with h|h|h|h|h<;>(rw [T.wts,h];rfl)
 | .n1 n a,i,hok,hs=>by
   obtain ⟨e,e2⟩:=yfv (.n1 n a);simp only [T.size] at hs;have ha:=zpw a (i+1) hok.2 (by omega);have hl:=qxl a (i+1);have hw:w64 ((i:Int)+1)=((i+1:Nat):Int):=by rw [zfi (by omega) (by omega)];omega
   have l0:=yne n.1 a (i+1) (by omega) ha (by omega);rw [ztt,e,e2,rk1 hok (by simp only [T.size];omega)];simp only [Option.bind_some,cond_true,T.hd,hw,l0];rcases ar1 hok.1 with h|h<;>(rw [T.wts,h];rfl)
 | .n2 n a b,i,hok,hs=>by
   obtain ⟨e,e2⟩:=yfv (.n2 n a b);simp only [T.size] at hs;have ha:=zpw a (i+1) hok.2.1 (by omega);have hb:=zpw b (i+1+a.size) hok.2.2 (by omega);have hl:=qxl a (i+1);have hl2:=qxl b (i+1+a.size);have hw:w64 ((i:Int)+1)=((i+1:Nat):Int):=by rw [zfi (by omega) (by omega)];omega
   have l0:=ynd n.1 a b (i+1) (by omega) ha hb (by omega) (by omega);rw [ztt,e,e2,rk2 hok (by simp only [T.size];omega)];simp only [Option.bind_some,cond_true,T.hd,hw,l0];rcases ar2 hok.1 with h|h|h|h|h|h|h<;>(rw [T.wts,h];rfl)
theorem zma [Dfr] (l:List Nd) (hl:l.length≤1000000) (hn:∀n∈l,n.2.1.size≤9223372036854775807):zmb l=some (decide (l≠[]∧zbl l=l)):=by
 have h2:=qed l;rw [qmt];by_cases h:l=[]
 ·subst h;rfl
 ·have hpos:0<l.length:=List.length_pos_iff.2 h;rw [decide_eq_true (show (l.length:Int)>0 by omega),cond_true,qdd l (by omega) hn,Option.bind_some,yej _ _ (by omega),Option.bind_some]
  congr 1
  exact decide_eq_decide.2 ⟨fun h'=>⟨h,h'⟩,fun h'=>h'.2⟩
theorem zzp [Dfr]:∀(t:T),t.ok→t.size≤1000000000→zlm t.row=some t.bang
 | .n0 n,hok,hl=>by obtain ⟨e,e2⟩:=yfv (.n0 n);rw [zxb,rk0 hok];simp only [Option.bind_some,e,e2,cond_true,T.hd];rcases ar0 hok with h|h|h|h|h<;>rw [T.bang,h]<;>rfl
 | .n1 n a,hok,hl=>by obtain ⟨e,e2⟩:=yfv (.n1 n a);rw [zxb,rk1 hok (by omega)];simp only [Option.bind_some,e,e2,cond_true,T.hd];rcases ar1 hok.1 with h|h<;>rw [T.bang,h]<;>rfl
 | .n2 n a b,hok,hl=>by obtain ⟨e,e2⟩:=yfv (.n2 n a b);have e3:ix [a.row,b.row] 0=a.row:=rfl;have e4:ix [a.row,b.row] 1=b.row:=rfl;have i0:zaa 0 [a.row,b.row].length=true:=rfl;have i1:zaa 1 [a.row,b.row].length=true:=rfl;have hl':=hl;simp only [T.size] at hl;have ha:=zzp a hok.2.1 (by omega);have hb:=zzp b hok.2.2 (by omega);rw [zxb,rk2 hok (by omega)];simp only [Option.bind_some,e,e2,e3,e4,i0,i1,cond_true,ha,hb,T.hd];rcases ar2 hok.1 with h|h|h|h|h|h|h<;>rw [T.bang,h]<;>first|rfl|(cases a.bang<;>rfl)
theorem yzv [Dfr] {c:T} (hok:c.ok) (hs:c.size≤1000000) (hn:∀n∈c.row,n.2.1.size≤9223372036854775807):zsj c.row=some (dmL c.row):=by
 rw [qql,zma _ (by rw [T.zac];exact hs) hn];unfold dmL;rw [zpn hok];by_cases h:setL c.row
 ·rw [decide_eq_true (p:=c.row≠[]∧zbl c.row=c.row) h,show @decide (setL c.row) (Classical.propDecidable _)=true from @decide_eq_true _ (Classical.propDecidable _) h];simp only [Option.bind_some,cond_true,Bool.true_and];rw [zzp c hok (by omega)];rfl
 ·rw [decide_eq_false (p:=c.row≠[]∧zbl c.row=c.row) h,show @decide (setL c.row) (Classical.propDecidable _)=false from @decide_eq_false _ (Classical.propDecidable _) h];rfl
theorem qdc [Dfr] {l:List Nd} {t:T} (ht:tree l=some t) (hl:l.length≤1000000) (hn:∀n∈l,n.2.1.size≤9223372036854775807) (hs:setL l):zoi l=some ((t.wts 0).map fun (k:Nat)=>(k:Int)):=by
 obtain ⟨hok,hrow⟩:=zga.1 ht;have hlen:l.length=t.size:=by rw [hrow,T.zac]
 have hw:=zpw t 0 hok (by omega);rw [Int.natCast_zero] at hw;rw [zzq,zma l hl hn,decide_eq_true (p:=l≠[]∧zbl l=l) hs];simp only [Option.bind_some,Bool.not_true,cond_false];rw [hrow,hw];rfl
theorem qqm [Dfr] {l:List Nd} (hl:l.length≤1000000) (hn:∀n∈l,n.2.1.size≤9223372036854775807) (hs:¬setL l):zoi l=some []:=by rw [zzq,zma l hl hn,decide_eq_false (p:=l≠[]∧zbl l=l) hs];rfl
theorem qlo [Dfr] (xs:List Int) (x:Int) (b:Bool) (hx:xs.length≤1000000):∀(r:List Int) (i:Nat),xs.drop i=r→zxa xs x b (i:Int)=some (if x∈r then (1,true) else (0,b))
 |[],i,h=>by obtain ⟨h1,h2⟩:=drop_nil h;rw [qcz];simp only [h2,cond_false];simp
 |y::r,i,h=>by
  obtain ⟨h1,h2,h3,h4,h5,h6⟩:=zab h;rw [qcz];simp only [h2,h3,h4,cond_true,zar (show i<9223372036854775807 by omega),qlo xs x b hx r (i+1) h5];by_cases e:y=x
  ·subst e;simp
  ·rw [show (y==x)=false by simpa using e];simp [show ¬x=y from fun h=>e h.symm]
theorem yoi [Dfr] (xs:List Int) (x:Int) (hx:xs.length≤1000000):qzs xs x=some (decide (x∈xs)):=by have e:=qlo xs x false hx xs 0 rfl;rw [Int.natCast_zero] at e;rw [yij,e,Option.bind_some];by_cases h:x∈xs<;>simp [h,Nat.beq]
theorem qda [Dfr] (xs ys:List Int) (b:Bool) (hx:xs.length≤1000000) (hl:xs.length=ys.length):∀(r:List Int) (i:Nat),xs.drop i=r→zpx xs ys b (i:Int)=some (if r=ys.drop i then (0,b) else (1,false))
 |[],i,h=>by obtain ⟨h1,h2⟩:=drop_nil h;rw [zye];have:ys.drop i=[]:=List.drop_eq_nil_of_le (by omega);simp only [h2,cond_false];simp [this]
 |x::r,i,h=>by
  obtain ⟨h1,h2,h3,h4,h5,h6⟩:=zab h;obtain ⟨y,s,hy⟩:∃y s,ys.drop i=y::s:=by
   cases e:ys.drop i with
   |nil=>have:=drop_nil e;omega
   |cons y s=>exact ⟨y,s,rfl⟩
  obtain ⟨k1,k2,k3,k4,k5,k6⟩:=zab hy;rw [zye];simp only [h2,h3,h4,k3,k4,cond_true,zar (show i<9223372036854775807 by omega),qda xs ys b hx hl r (i+1) h5,hy,k5];by_cases e:x=y
  ·subst e;by_cases e2:r=s<;>simp [e2]
  ·rw [show (x != y)=true by simpa using e,cond_true,if_neg (fun h=>e (List.cons.inj h).1)]
theorem qlp [Dfr] (xs ys:List Int) (hx:xs.length≤1000000):zvf xs ys=some (decide (xs=ys)):=by
 rw [qzt];by_cases hl:xs.length=ys.length
 ·have h1:((xs.length:Int) != (ys.length:Int))=false:=by simp [hl]
  have:=qda xs ys false hx hl xs 0 rfl;simp only [Int.natCast_zero,List.drop_zero] at this;simp only [h1,cond_false,this,Option.bind_some];by_cases e:xs=ys<;>simp [e,Nat.beq]
 ·have h1:((xs.length:Int) != (ys.length:Int))=true:=by simp;omega
  have h2:xs≠ys:=fun e=>hl (by rw [e])
  simp [h1,h2]
theorem yto [Dfr] (l:List Nd) (a:T) (i k:Nat) (hk:k<i+a.size) (hi:i+a.size≤4000000):zmc l (k:Int) [a.row] (i:Int) 0=some (0,(l,(k:Int),[a.row],(i:Int),0)):=by rw [zpa];have i0:ix [a.row] 0=a.row:=rfl;have j0:zaa 0 [a.row].length=true:=rfl;simp only [i0,j0,cond_true,T.zac];rw [zfi (by omega) (by omega),decide_eq_false (by omega)];rfl
theorem ytn [Dfr] (l:List Nd) (a b:T) (i k:Nat) (hk:k<i+a.size+b.size) (hi:i+a.size+b.size≤4000000):zmc l (k:Int) [a.row,b.row] (i:Int) 0=some (0,(l,(k:Int),[a.row,b.row],if k<i+a.size then ((i:Int),0) else (((i+a.size:Nat):Int),1))):=by
 have i0:ix [a.row,b.row] 0=a.row:=rfl;have j0:zaa 0 [a.row,b.row].length=true:=rfl;have i1:ix [a.row,b.row] 1=b.row:=rfl;have j1:zaa 1 [a.row,b.row].length=true:=rfl;rw [zpa];simp only [i0,j0,cond_true,T.zac];rw [zfi (n:=(i:Int)+(a.size:Int)) (by omega) (by omega)];by_cases h:k<i+a.size
 ·rw [decide_eq_false (by omega),if_pos h];rfl
 ·rw [decide_eq_true (by omega),if_neg h,cond_true,show w64 (0+1)=1 from rfl,zpa];simp only [i1,j1,cond_true,T.zac];rw [zfi (by omega) (by omega),decide_eq_false (by omega),show (i:Int)+(a.size:Int)=((i+a.size:Nat):Int) by omega];rfl
theorem zsi [Dfr]:∀(t:T) (i k:Nat),t.ok→i≤k→k<i+t.size→i+t.size≤1000000→qbr t.row (i:Int) (k:Int)=some (zaq (t.path i k))
 | .n0 n,i,k,hok,h1,h2,h3=>by
   simp only [T.size] at h2;have:k=i:=by omega
   subst this;rw [zxc,beq_self_eq_true];rfl
 | .n1 n a,i,k,hok,h1,h2,h3=>by
   simp only [T.size] at h2 h3;rw [zxc,T.zpb];by_cases e:k=i
   ·subst e;rw [beq_self_eq_true,if_pos rfl];rfl
   ·rw [show ((i:Int)==(k:Int))=false by rw [beq_eq_false_iff_ne];omega,if_neg e,cond_false,rk1 hok (by simp only [T.size];omega)];have hw:w64 ((i:Int)+1)=((i+1:Nat):Int):=by rw [zfi (by omega) (by omega)];omega
    have ih:=zsi a (i+1) k hok.2 (by omega) (by omega) (by omega);obtain ⟨eh,eh2⟩:=yfv (.n1 n a);simp only [Option.bind_some,hw,yto _ a (i+1) k (by omega) (by omega),show ix [a.row] 0=a.row from rfl,show zaa 0 [a.row].length=true from rfl,cond_true,ih,eh,eh2,T.hd];have h7:(n.1==7)=false:=by rcases ar1 hok.1 with h|h<;>rw [h]<;>rfl
    rw [h7,zaq];cases hb:(zaq (a.path (i+1) k)).2 with
    |true=>simp only [cond_true,if_true]
    |false=>simp only [cond_false,Bool.false_eq_true,if_false];rw [if_neg (show ¬(T.n1 n a).hd.1=7 from fun h=>by rw [show (T.n1 n a).hd=n from rfl] at h;rw [h] at h7;cases h7)];rfl
 | .n2 n a b,i,k,hok,h1,h2,h3=>by
   simp only [T.size] at h2 h3;rw [zxc,T.zgm];by_cases e:k=i
   ·subst e;rw [beq_self_eq_true,if_pos rfl];rfl
   ·rw [show ((i:Int)==(k:Int))=false by rw [beq_eq_false_iff_ne];omega,if_neg e,cond_false,rk2 hok (by simp only [T.size];omega)];have hw:w64 ((i:Int)+1)=((i+1:Nat):Int):=by rw [zfi (by omega) (by omega)];omega
    obtain ⟨eh,eh2⟩:=yfv (.n2 n a b);have i0:ix [a.row,b.row] 0=a.row:=rfl;have j0:zaa 0 [a.row,b.row].length=true:=rfl;have i1:ix [a.row,b.row] 1=b.row:=rfl;have j1:zaa 1 [a.row,b.row].length=true:=rfl;simp only [Option.bind_some,hw,ytn _ a b (i+1) k (by omega) (by omega)];by_cases hlt:k<i+1+a.size
    ·have ih:=zsi a (i+1) k hok.2.1 (by omega) (by omega) (by omega);have hroom:=qta (a.path (i+1) k);have hroom2:=T.zqb a (i+1) k;rw [if_pos hlt,if_pos hlt];simp only [i0,j0,cond_true,ih,Option.bind_some,eh,eh2,T.hd,show w64 (1-0)=1 from rfl,i1,j1,room (show ((zaq (a.path (i+1) k)).1.length+1)*24≤140737488355328 by omega)];rw [zaq];cases hb:(zaq (a.path (i+1) k)).2 with
     |true=>simp only [cond_true,if_true]
     |false=>
      simp only [cond_false,Bool.false_eq_true,if_false];by_cases h7:n.1=7
      ·rw [show (n.1==7)=true by rw [h7];rfl,show (n.1==9)=false by rw [h7];rfl,if_pos (show (T.n2 n a b).hd.1=7 from h7)];rfl
      ·rw [show (n.1==7)=false by rw [beq_eq_false_iff_ne];exact h7,if_neg (show ¬(T.n2 n a b).hd.1=7 from h7)];rfl
    ·have ih:=zsi b (i+1+a.size) k hok.2.2 (by omega) (by omega) (by omega);have hroom:=qta (b.path (i+1+a.size) k);have hroom2:=T.zqb b (i+1+a.size) k;rw [if_neg hlt,if_neg hlt];simp only [i1,j1,cond_true,ih,Option.bind_some,eh,eh2,T.hd,show w64 (1-1)=0 from rfl,i0,j0,room (show ((zaq (b.path (i+1+a.size) k)).1.length+1)*24≤140737488355328 by omega)];rw [zaq];cases hb:(zaq (b.path (i+1+a.size) k)).2 with
     |true=>simp only [cond_true,if_true]
     |false=>
      simp only [cond_false,Bool.false_eq_true,if_false];by_cases h7:n.1=7
      ·rw [show (n.1==7)=true by rw [h7];rfl,show (n.1==9)=false by rw [h7];rfl,if_pos (show (T.n2 n a b).hd.1=7 from h7)];rfl
      ·rw [show (n.1==7)=false by rw [beq_eq_false_iff_ne];exact h7,if_neg (show ¬(T.n2 n a b).hd.1=7 from h7)];rfl
theorem qdb [Dfr] (xs:List (List Nd)) (hx:xs.length≤1000000) (hd:∀x∈xs,zsj x=some (dmL x)):∀(r:List (List Nd)) (i:Nat) (b:Bool),xs.drop i=r→zmd xs b (i:Int)=some (0,b||r.any dmL)
 |[],i,b,h=>by obtain ⟨h1,h2⟩:=drop_nil h;rw [zyf];simp only [h2,cond_false];simp
 |x::r,i,b,h=>by
  obtain ⟨h1,h2,h3,h4,h5,h6⟩:=zab h;have hm:=hd x (List.mem_of_mem_drop (by rw [h];exact List.mem_cons_self ..));rw [zyf];simp only [h2,h3,h4,cond_true,hm,Option.bind_some,zar (show i<9223372036854775807 by omega),qdb xs hx hd r (i+1) _ h5];cases b with
  |true=>simp
  |false=>simp
theorem qzu [Dfr] {l:List Nd} {t:T} (ht:tree l=some t) (hl:l.length≤1000000) (hn:∀n∈l,n.2.1.size≤9223372036854775807) (hnm:∀c:T,c.ok→(∃k,c.row∈(zaq (t.path 0 k)).1)→∀n∈c.row,n.2.1.size≤9223372036854775807) (hs:setL l) {k:Nat} (hk:k∈t.wts 0):qbs l (k:Int)=some (qfg t k):=by
 obtain ⟨hok,hrow⟩:=zga.1 ht;have hlen:l.length=t.size:=by rw [hrow,T.zac]
 have hkr:=zys t 0 k hk;have hw:=qfw t;have hp:=zsi t 0 k hok (by omega) (by omega) (by omega);rw [Int.natCast_zero] at hp;have h1:=qta (t.path 0 k);have h2:=T.zqb t 0 k;have e:=qdb (zaq (t.path 0 k)).1 (by omega) (fun x hx=>by obtain ⟨c,c1,c2,rfl⟩:=yna hok hx;exact yzv c1 (by omega) (hnm c c1 ⟨k,hx⟩)) (zaq (t.path 0 k)).1 0 (!(zaq (t.path 0 k)).2) rfl;rw [Int.natCast_zero] at e;rw [qzv,qdc ht hl hn hs,Option.bind_some,yoi _ _ (by rw [List.length_map];omega),decide_eq_true (List.mem_map.2 ⟨k,hk,rfl⟩)];simp only [Option.bind_some,Bool.not_true,cond_false];rw [hrow,hp,Option.bind_some,e];rfl
theorem yop [Dfr] {l:List Nd} {t:T} (ht:tree l=some t) (hn:∀n∈l,n.2.1.size≤9223372036854775807):∀c:T,c.ok→(∃k,c.row∈(zaq (t.path 0 k)).1)→∀n∈c.row,n.2.1.size≤9223372036854775807:=fun c hc ⟨k,hk⟩ n hnc=>by
 obtain ⟨hok,hrow⟩:=zga.1 ht;have sub:∀(t:T) (i:Nat),t.ok→∀x∈t.path i k,x.2.2.hd.1=7→∀n∈x.2.2.kid (1-x.2.1),n∈t.row:=by
  intro t
  induction t with
  |n0 n=>intro i _ x hx;cases hx
  |n1 n a ih=>
   intro i hok x hx h7 m hm;rw [T.zpb] at hx;split at hx
   ·cases hx
   ·rcases List.mem_cons.1 hx with rfl|hx
    ·exfalso;have h7:n.1=7:=h7;have:=hok.1;rw [h7] at this;cases this
    ·exact List.mem_cons_of_mem _ (ih (i+1) hok.2 x hx h7 m hm)
  |n2 n a b iha ihb=>
   intro i hok x hx h7 m hm;rw [T.zgm] at hx;split at hx
   ·cases hx
   ·split at hx
    ·rcases List.mem_cons.1 hx with rfl|hx
     ·exact List.mem_cons_of_mem _ (List.mem_append_right _ hm)
     ·exact List.mem_cons_of_mem _ (List.mem_append_left _ (iha (i+1) hok.2.1 x hx h7 m hm))
    ·rcases List.mem_cons.1 hx with rfl|hx
     ·exact List.mem_cons_of_mem _ (List.mem_append_left _ hm)
     ·exact List.mem_cons_of_mem _ (List.mem_append_right _ (ihb (i+1+a.size) hok.2.2 x hx h7 m hm))
 obtain ⟨x,hx,h7,e⟩:=qsz hk;rw [e] at hnc;have:=sub t 0 hok x hx h7 n hnc;rw [←hrow] at this;exact hn n this
end Go.Proofs.YtjolkdjkhekbnaaGreatDoor.Sv
