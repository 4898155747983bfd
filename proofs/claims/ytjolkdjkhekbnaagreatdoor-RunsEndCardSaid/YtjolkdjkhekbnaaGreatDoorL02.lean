/- The laws of traces: what they tell. -/
import Derived.Test.YtjolkdjkhekbnaaGreatDoorX19
set_option linter.unusedVariables false
set_option linter.unusedSimpArgs false
namespace Go.Proofs.YtjolkdjkhekbnaaGreatDoor.Sv
open Go Go.Sv Go.Rd
def wfT (t:Tc):Prop:=(t.1.length≤reachBytes∧∀x∈t.1,x.size≤reachBytes)∧(Lit.int .i64 t.2).wf=true
def wfTs (l:List Tc):Prop:=l.length≤reachBytes∧∀x∈l,wfT x
theorem wfT.len [Dfr] {t:Tc} (h:wfT t):t.1.length≤140737488351232:=h.1.1
theorem wfTs.short [Dfr] {l:List Tc} (h:wfTs l):zwz l:=fun x hx=>by have:=(h.2 x hx).len;omega
theorem qff [Dfr] (xs:List Tc) (hx:xs.length≤1000000000):∀(r:List Tc) (i:Nat) (acc:List Tc),xs.drop i=r→acc.length≤i→zsd acc xs (xs.length:Int) (i:Int)=some (0,acc++r)
 |[],i,acc,h,ha=>by obtain ⟨h1,h2⟩:=drop_nil h;rw [qai];simp only [h2,cond_false,List.append_nil]
 |x::r,i,acc,h,ha=>by obtain ⟨h1,h2,h3,h4,h5,h6⟩:=zae h;rw [qai];simp only [h2,h3,h4,cond_true,room (show (acc.length+1)*32≤140737488355328 by omega),zbj (show i<9223372036854775807 by omega),qff xs hx r (i+1) (acc++[x]) h5 (by simp;omega),List.append_assoc,List.singleton_append]
theorem yhe [Dfr] (xs:List Tc) (hx:xs.length≤1000000000):qdy xs=some xs:=by have e:=qff xs hx xs 0 [] rfl (by simp);rw [Int.natCast_zero] at e;rw [yco,e];rfl
def zug (l:List Nd):Prop:=l.length≤24∧(l.countP fun x=>decide (x.1∈([1]:List Int)))≤6
instance (l:List Nd):Decidable (zug l):=by unfold zug;infer_instance
theorem zwo [Dfr] {m:Tm}:zug m.row↔m.small:=by unfold zug Tm.small;rw [Tm.zab,Tm.zoq]
noncomputable def trL (l:List Nd):List Tc:=match tmOf l with|some m=>m.tr|none=>[]
theorem qkp [Dfr] {m:Tm} (h:m.fine) (hs:m.size≤200):trL m.row=m.tr:=by unfold trL;rw [zjg.2 ⟨rfl,h,hs⟩]
noncomputable def qsc (l:List Nd):List Tc×Int:=if on (sOf l)=3 then (if zug l then (trL l,0) else ([],70)) else ([],1)
theorem xho [Dfr] {l:List Nd} (h:on (sOf l)=3∨on (sOf l)=4):∃m:Tm,l=m.row∧m.fine∧m.size≤200∧(on (sOf l)=3→m.po=true)∧(on (sOf l)=4→m.qo=true):=by obtain ⟨m,h1,h2,h3,h4⟩:=ytm (l:=l) (by intro e;rw [e] at h;revert h;decide);exact ⟨m,h1,h2,h3,fun e=>by rw [Tm.ysz,←h4];exact decide_eq_true e,fun e=>by rw [Tm.xjn,←h4];exact decide_eq_true e⟩
theorem qch [Dfr] (l:List Nd):zxm l=some (decide (zug l)):=by
 rw [ych];by_cases h:l.length≤24
 ·rw [decide_eq_true (show (l.length:Int)≤24 by omega),cond_true,qgf l [1] (by omega) (by simp),Option.bind_some];exact congrArg some (decide_eq_decide.2 (by unfold zug;omega))
 ·rw [decide_eq_false (show ¬(l.length:Int)≤24 by omega),cond_false,decide_eq_false (fun h':zug l=>h h'.1)]
theorem xje [Dfr] (l:List Nd) (hl:l.length≤4611686018427387904) (b:Bool) (fv:FnV) (r:List Tc) (hr:on (sOf l)=(if b then 4 else 3)→zug l→dyn E fv [.one (.slice 68 (.pair (.int .i64) (.pair .str (.int .i64))) l .no)] (.slice 33 (.pair (.slice 9 .str) (.int .i64)))=some r):
 zjy l b fv=some (if on (sOf l)=(if b then 4 else 3) then (if zug l then (r,0) else ([],70)) else ([],1)):=by
 rw [zvv,qqo l b hl,Option.bind_some];by_cases h:on (sOf l)=(if b then 4 else 3)
 ·rw [decide_eq_true h,if_pos h,qch];simp only [Bool.not_true,cond_false,Option.bind_some];by_cases hs:zug l
  ·rw [decide_eq_true hs,if_pos hs,hr h hs];rfl
  ·rw [decide_eq_false hs,if_neg hs];rfl
 ·rw [decide_eq_false h,if_neg h];rfl
theorem ygz [Dfr] [qnp] (l:List Nd) (hl:l.length≤4611686018427387904):qln l=some (qsc l):=by
 rw [yci,xje l hl false _ (trL l) fun h hs=> ?_]
 ·rfl
 ·obtain ⟨m,rfl,hf,hz,hp,_⟩:=xho (l:=l) (.inl h);rw [qkp hf hz];exact (qwd m.row).trans ((zkv m (zwo.1 hs)).1 (hp h))
theorem qdq [Dfr] {m:Tm} (hf:m.fine) (hz:m.size≤200) (ho:m.po=true) (hs:m.small):qsc m.row=(m.tr,0):=by unfold qsc;rw [ytl hf hz,if_pos (of_decide_eq_true ((Tm.ysz m).symm.trans ho)),if_pos (zwo.2 hs),qkp hf hz]
theorem qyo [Dfr]:∀m:Tm,m.t.bang=m.bang
 | .act s| .skip| .throw| .yield=>rfl
 | .over s=>rfl
 | .fin s a=>rfl
 | .alt a b| .hand a b| .pair a b=>rfl
 | .block a=>rfl
 | .seq a b=>qyo a
 | .going a b=>qyo a
 | .stack a b=>qyo a
 | .par a b=>by show (a.t.bang||b.t.bang)=(a.bang||b.bang);rw [qyo a,qyo b]
theorem xfl [Dfr] {b:Tm} (hf:b.fine) (hz:b.size≤200) (ho:b.po=true∨b.qo=true) (hs:b.st=b):dmL b.row=b.bang:=by unfold dmL;rw [@decide_eq_true _ (Classical.propDecidable _) (qhx hf hz ho hs),show tree b.row=some b.t from zpi (Tm.t_ok b)];exact qyo b
theorem qiy [Dfr] {a b:Bool}:((a&&b)=true)→a=true∧b=true:=by cases a<;>cases b<;>simp
theorem qnk [Dfr] (u:Tm):∀(c:Cx) (F:Bool),(c.fill u).fine→(c.fill u).size≤200→((c.fill u).po=true∨(c.fill u).qo=true)→(c.fill u).st=c.fill u→c.fr F=(if c.bsd.2=true then c.bsd.1.any dmL else (c.bsd.1.any dmL||F))
 | .hole,F,hf,hz,ho,hs=>rfl
 | .seq c b,F,hf,hz,ho,hs=>by have e:(Tm.seq (c.fill u) b).size=(c.fill u).size+b.size+1:=rfl;exact qnk u c F hf.1 (by have:(Tm.seq (c.fill u) b).size≤200:=hz;omega) (ho.imp (fun h=>(qiy h).1) (fun h=>(qiy h).1)) (Tm.qga hs).1
 | .hand c b,F,hf,hz,ho,hs=>by have e:(Tm.hand (c.fill u) b).size=(c.fill u).size+b.size+1:=rfl;exact qnk u c F hf.1 (by have:(Tm.hand (c.fill u) b).size≤200:=hz;omega) (ho.elim (fun h=>.inl (qiy h).1) (fun h=>nomatch h)) (Tm.qbg hs).1
 | .going c b,F,hf,hz,ho,hs=>by have e:(Tm.going (c.fill u) b).size=(c.fill u).size+b.size+1:=rfl;exact qnk u c F hf.1 (by have:(Tm.going (c.fill u) b).size≤200:=hz;omega) (ho.elim (fun h=>nomatch h) (fun h=>.inl (qiy h).1)) (Tm.zyk hs).1
 | .stack c b,F,hf,hz,ho,hs=>by have e:(Tm.stack (c.fill u) b).size=(c.fill u).size+b.size+1:=rfl;exact qnk u c F hf.1 (by have:(Tm.stack (c.fill u) b).size≤200:=hz;omega) (ho.elim (fun h=>nomatch h) (fun h=>.inr (qiy h).1)) (Tm.zyi hs).1
 | .block c,F,hf,hz,ho,hs=>by have e:(Tm.block (c.fill u)).size=(c.fill u).size+1:=rfl;have ih:=qnk u c false hf (by have:(Tm.block (c.fill u)).size≤200:=hz;omega) (ho.elim (fun h=>.inr h) (fun h=>nomatch h)) (Tm.zyl hs).1;show c.fr false=(if true=true then c.bsd.1.any dmL else _);rw [ih,if_pos rfl,Bool.or_false,ite_self]
 | .parL c b,F,hf,hz,ho,hs=>by
   have e:(Tm.par (c.fill u) b).size=(c.fill u).size+b.size+1:=rfl;have hz':(Tm.par (c.fill u) b).size≤200:=hz;obtain ⟨h1,h2,_⟩:=Tm.zyj hs;have ho':((c.fill u).po=true∧b.po=true)∨((c.fill u).qo=true∧b.qo=true):=ho.imp qiy qiy;have ih:=qnk u c (F||b.bang) hf.1 (by omega) (ho'.imp (·.1) (·.1)) h1
   have hd:=xfl hf.2 (by omega) (ho'.imp (·.2) (·.2)) h2
   show c.fr (F||b.bang)=_;rw [ih];by_cases hb:c.bsd.2=true
   ·have e:(Cx.parL c b).bsd=(c.bsd.1,true):=by simp only [Cx.bsd,if_pos hb]
    rw [e,if_pos hb,if_pos rfl]
   ·have e:(Cx.parL c b).bsd=(c.bsd.1++[b.row],false):=by simp only [Cx.bsd,if_neg hb]
    rw [e,if_neg hb,if_neg (by simp),List.any_append,←hd];simp only [List.any_cons,List.any_nil,Bool.or_false];cases c.bsd.1.any dmL<;>cases F<;>cases dmL b.row<;>rfl
 | .parR a c,F,hf,hz,ho,hs=>by
   have e:(Tm.par a (c.fill u)).size=a.size+(c.fill u).size+1:=rfl;have hz':(Tm.par a (c.fill u)).size≤200:=hz;obtain ⟨h1,h2,_⟩:=Tm.zyj hs;have ho':(a.po=true∧(c.fill u).po=true)∨(a.qo=true∧(c.fill u).qo=true):=ho.imp qiy qiy;have ih:=qnk u c (F||a.bang) hf.2 (by omega) (ho'.imp (·.2) (·.2)) h2
   have hd:=xfl hf.1 (by omega) (ho'.imp (·.1) (·.1)) h1
   show c.fr (F||a.bang)=_;rw [ih];by_cases hb:c.bsd.2=true
   ·have e:(Cx.parR a c).bsd=(c.bsd.1,true):=by simp only [Cx.bsd,if_pos hb]
    rw [e,if_pos hb,if_pos rfl]
   ·have e:(Cx.parR a c).bsd=(c.bsd.1++[a.row],false):=by simp only [Cx.bsd,if_neg hb]
    rw [e,if_neg hb,if_neg (by simp),List.any_append,←hd];simp only [List.any_cons,List.any_nil,Bool.or_false];cases c.bsd.1.any dmL<;>cases F<;>cases dmL a.row<;>rfl
theorem qto [Dfr] {c:Cx} {u:Tm} (hs:setL (c.fill u).row):qej (c.fill u).t c.pos=c.fr true:=by obtain ⟨hf,hz,ho,hst⟩:=yai hs;have:=Cx.zva u c 0;rw [Nat.zero_add] at this;rw [qnk u c true hf hz ho hst];unfold qej;rw [this];cases c.bsd.2<;>simp
theorem qps [Dfr] {u:Tm} (hu:u.Wt) {how k:Int} {f:Bool}:(k,how)∈zjm u.t.hd.1 k f↔u.wayT how f:=by
 rcases hu with ⟨s,rfl⟩|⟨a,b,rfl⟩|rfl|⟨a,b,rfl⟩
 ·simp [zjm,Tm.t,T.hd,Tm.wayT]
 ·simp [zjm,Tm.t,T.hd,Tm.wayT]
 ·cases f<;>simp [zjm,Tm.t,T.hd,Tm.wayT]
 ·cases f<;>simp [zjm,Tm.t,T.hd,Tm.wayT]
theorem yvi [Dfr] {u:Tm} (hu:u.Wt) (hf:u.fine):(if u.t.hd.2.1=(⟨#[]⟩:ByteArray) then [] else [u.t.hd.2.1])=u.nmL:=by
 rcases hu with ⟨s,rfl⟩|⟨a,b,rfl⟩|rfl|⟨a,b,rfl⟩
 ·have h:qoa s=true:=hf;show (if s=_ then [] else [s])=[s];rw [if_neg];rintro rfl;revert h;decide
 ·exact if_pos rfl
 ·exact if_pos rfl
 ·exact if_pos rfl
def w1 (n:Nd):Nat:=if n.1=1 then 1 else 0
theorem ynp [Dfr]:Tm.Light w1:=⟨rfl,fun _=>rfl,fun _=>rfl,rfl,rfl⟩
theorem yvg [Dfr] (m:Tm):m.nm.length=m.wt w1:=by
 rw [Tm.zoq];show _=(m.row.map w1).sum;generalize m.row=l
 induction l with
 |nil=>rfl
 |cons n l ih=>
  rw [List.map_cons,List.sum_cons,←ih];by_cases h:n.1=1
  ·rw [List.countP_cons_of_pos (by simp [h])];unfold w1;rw [if_pos h];omega
  ·rw [List.countP_cons_of_neg (by simp [h])];unfold w1;rw [if_neg h];omega
theorem xlm [Dfr] {u:Tm} (hu:u.Wt) (how:Int):(u.mdT how).nm.length≤u.nm.length:=by
 rcases hu with ⟨s,rfl⟩|⟨a,b,rfl⟩|rfl|⟨a,b,rfl⟩
 ·exact Nat.zero_le _
 ·show (if how=2 then a else b).nm.length≤(a.nm++b.nm).length;rw [List.length_append];split<;>omega
 ·show (if how=5 then Tm.over 3 else Tm.over 1).nm.length≤0;split<;>exact Nat.le_refl _
 ·show (if how=5 then Tm.fin 3 .skip else Tm.going a b).nm.length≤(a.nm++b.nm).length;split
  ·exact Nat.zero_le _
  ·exact Nat.le_refl _
theorem xhz [Dfr] (c:Cx) (x y:Tm):(c.fill x).nm.length+y.nm.length=(c.fill y).nm.length+x.nm.length:=by obtain ⟨A,B,h1,h2⟩:=Cx.zmr c;simp only [yvg,Tm.wt,h2,List.map_append,List.sum_append];omega
theorem qlg [Dfr] {c:Cx} {u:Tm} {how:Int} (hu:u.Wt) (h:(c.fill u).small) (hz:(c.fill (u.mdT how)).size≤(c.fill u).size):(c.fill (u.mdT how)).st.small:=by obtain ⟨h1,h2⟩:=h;have e1:=Tm.zcd (c.fill (u.mdT how));have e2:=Tm.xfu w1 ynp (c.fill (u.mdT how));have e3:=xhz c (u.mdT how) u;have e4:=xlm hu how;rw [←yvg,←yvg] at e2;exact ⟨by omega,by omega⟩
def zor (s:ByteArray) (L:List Tc):List Tc:=L.map fun x=>((if s=(⟨#[]⟩:ByteArray) then [] else [s])++x.1,x.2)
theorem yqi [Dfr] {m:Tm} (hs:setL m.row) (hp:m.po=true) (hsm:m.small) {mv:Mv} (h:mv∈enL m.row):∃(c:Cx) (u:Tm),m=c.fill u∧u.Wt∧u.fine∧mv.1=(c.pos:Int)∧u.wayT mv.2 (c.fr true)∧
 zge m.row mv=((c.fill (u.mdT mv.2)).st.row,u.t.hd.2.1,0)∧qsc (c.fill (u.mdT mv.2)).st.row=((c.fill (u.mdT mv.2)).tr,0)∧(c.fill (u.mdT mv.2)).tr.length≤400000000∧(∀x∈(c.fill (u.mdT mv.2)).tr,x.1.length≤6)∧(c.fill (u.mdT mv.2)).st.size≤200:=by
 obtain ⟨c,u,rfl,hu,h1,h2⟩:=xib h;have hm:mv=((c.pos:Int),mv.2):=by rw [←h1]
 rw [hm] at h2;obtain ⟨n1,n2,n3,n4,_⟩:=ycc hs hu h2;obtain ⟨hf,hz,ho,hst⟩:=yai hs;have hpo:=n4 hp;have hst2:=Tm.qnr hpo;have hsm2:=qlg (how:=mv.2) hu hsm n3;have e1:=Tm.zcd (c.fill (u.mdT mv.2));have htr:=(Tm.qzx (c.fill (u.mdT mv.2))).1 hpo;refine ⟨c,u,rfl,hu,(Cx.zfa c (x:=u) hf).2,h1,?_,?_,?_,?_,?_,by omega⟩
 ·rw [←qto hs];exact (qps hu).1 h2
 ·rw [hm];exact n1
 ·rw [qdq (Tm.zvf n2) (by omega) hst2 hsm2,htr]
 ·rw [←htr];exact (zln hsm2).1
 ·rw [←htr];exact zcl hsm2
noncomputable def qaz (l:List Nd) (mv:Mv):List Tc:=zor (zge l mv).2.1 (qsc (zge l mv).1).1
theorem qzt [Dfr] {m:Tm} (hs:setL m.row) (hp:m.po=true) (hsm:m.small) (hov:m.zhq=false) (x:Tc):x∈(enL m.row).flatMap (qaz m.row)↔x∈m.tr:=by
 obtain ⟨hfi,hz,ho,hst⟩:=yai hs;rw [List.mem_flatMap];constructor
 ·rintro ⟨mv,hmv,hx⟩;obtain ⟨c,u,rfl,hu,hf,e2,e3,e4,e5,e6,e7,e8⟩:=yqi hs hp hsm hmv;unfold qaz at hx;rw [e4] at hx;have hx:x∈zor u.t.hd.2.1 (qsc (c.fill (u.mdT mv.2)).st.row).1:=hx;rw [e5] at hx;obtain ⟨y,hy,rfl⟩:=List.mem_map.1 hx;rw [yvi hu hf];exact (Tm.sound e3 c).1 y hy
 ·intro hx;obtain ⟨c,u,how,y,rfl,hu,hw,hy,rfl⟩:=(Tm.zux m hst hfi).1 hp hov true x hx (.inl rfl);have hmv:((c.pos:Int),how)∈enL (c.fill u).row:=xkt hs hu (by rw [qto hs];exact (qps hu).2 hw);refine ⟨_,hmv,?_⟩;have hin:((c.pos:Int),how)∈zjm u.t.hd.1 (c.pos:Int) (qej (c.fill u).t c.pos):=by rw [qto hs];exact (qps hu).2 hw
  obtain ⟨n1,n2,n3,n4,_⟩:=ycc hs hu hin;have hpo:=n4 hp;have hsm2:=qlg (how:=how) hu hsm n3;have e1:=Tm.zcd (c.fill (u.mdT how));unfold qaz;rw [n1];show _∈zor u.t.hd.2.1 (qsc (c.fill (u.mdT how)).st.row).1;rw [qdq (Tm.zvf n2) (by omega) (Tm.qnr hpo) hsm2,(Tm.qzx _).1 hpo];refine List.mem_map.2 ⟨y,hy,?_⟩;rw [yvi hu (Cx.zfa c (x:=u) hfi).2];rfl
def Good (n:Tm):Prop:=n.fine∧n.st=n∧n.po=true∧n.small
theorem Good.set [Dfr] {n:Tm} (h:Good n):setL n.row:=qhx h.1 (by have:=h.2.2.2.1;omega) (.inl h.2.2.1) h.2.1
theorem Good.len [Dfr] {n:Tm} (h:Good n):n.row.length≤24:=by rw [Tm.zab];exact h.2.2.2.1
theorem qjq [Dfr] {n:Tm} (h:Good n) {mv:Mv} (hm:mv∈enL n.row):∃n':Tm,(zge n.row mv).1=n'.row∧(zge n.row mv).2.2=0∧Good n'∧cntW n'.row<cntW n.row∧qaz n.row mv=zor (zge n.row mv).2.1 n'.tr∧n'.size≤n.size∧
 (n.okB=true→n'.okB=true):=by
 obtain ⟨hz,hcnt,_,_⟩:=qsm hm;have hs:=h.set;obtain ⟨c,u,e,hu,h1,h2⟩:=xib hm;subst e;have hme:mv=((c.pos:Int),mv.2):=by rw [←h1]
 rw [hme] at h2;obtain ⟨n1,n2,n3,n4,_⟩:=ycc hs hu h2;have hpo:=n4 h.2.2.1;have hsm:=qlg (how:=mv.2) hu h.2.2.2 n3;have e1:(zge (c.fill u).row mv).1=(c.fill (u.mdT mv.2)).st.row:=by rw [hme];exact congrArg Prod.fst n1
 have hsz:=Tm.zcd (c.fill (u.mdT mv.2));have hg:Good (c.fill (u.mdT mv.2)).st:=⟨Tm.zvf n2,Tm.yzt _,Tm.qnr hpo,hsm⟩;refine ⟨(c.fill (u.mdT mv.2)).st,e1,hz,hg,by rw [←e1];exact hcnt,?_,by omega,fun hk=> ?_⟩
 ·unfold qaz;rw [e1,qdq hg.1 (by have:=hg.2.2.2.1;omega) hg.2.2.1 hg.2.2.2]
 ·have hw:=(qps hu).1 h2;rw [qto hs] at hw;exact (Tm.xge _ n2 (.inl hpo) (Tm.zzp hu c true (.inl h.2.2.1) hw hk).1).1
theorem xcb [Dfr] (l:List Nd):(List.range l.length).map (fun k=>l.getD k default)=l:=by
 apply List.ext_getElem
 ·simp
 ·intro i h1 h2;simp only [List.getElem_map,List.getElem_range,List.getD_eq_getElem?_getD,List.getElem?_eq_getElem h2,Option.getD_some]
theorem xft [Dfr] {l:List Nd} {t:T} (ht:tree l=some t):(t.wts 0).length≤cntW l:=by
 obtain ⟨hok,hrow⟩:=zht.1 ht;have hlen:t.size=l.length:=by rw [hrow,T.zab]
 rw [znd l t 0 [] (by rw [List.drop_zero,List.append_nil];exact hrow),hlen,←List.range_eq_range'];have h1:((List.range l.length).filter fun k=>zcw (l.getD k default).1&& !qei (t.path 0 k)).length≤((List.range l.length).filter fun k=>zcw (l.getD k default).1).length:=by
  rw [←List.countP_eq_length_filter,←List.countP_eq_length_filter];refine List.countP_mono_left fun k _ hk=> ?_
  rw [Bool.and_eq_true] at hk;exact hk.1
 refine Nat.le_trans h1 (Nat.le_of_eq ?_);unfold cntW
 conv=>rhs;rw [←xcb l,List.countP_map]
 rw [←List.countP_eq_length_filter];rfl
theorem yli [Dfr] (l:List Nd):(enL l).length≤cntW l*2:=by
 by_cases hs:setL l
 ·obtain ⟨m,hm,_,hz,_,_,_,ht⟩:=qdf hs;rw [qjw ht hs];unfold mvsT;have h1:=zmz (A:=m.t.wts 0) (f:=fun k=>zjm (l.getD k default).1 (k:Int) (qej m.t k)) (k:=2) fun k _=>qso _ _ _
  have h2:=xft ht;omega
 ·rw [yhr hs];simp
def fct:Nat→Nat
 |0=>1
 |k+1=>(k+1)*2*fct k
theorem qlu [Dfr]:∀k,1≤fct k
 |0=>Nat.le_refl _
 |k+1=>by have:=qlu k;unfold fct;exact Nat.mul_pos (by omega) this
theorem ymw [Dfr] {n:Tm} (h:Good n) (ho:n.zhq=false):canon cmpT ((enL n.row).flatMap (qaz n.row))=n.tr:=
 qqi ordT (zss ordT _) (Tm.ymy n) fun x=>(zdm ordT).trans (qzt h.set h.2.2.1 h.2.2.2 ho x)
theorem qqg [Dfr] {n:Tm} {k:Nat} (h:Good n) (hk:∀n':Tm,Good n'→cntW n'.row<cntW n.row→n'.tr.length≤k):((enL n.row).flatMap (qaz n.row)).length≤cntW n.row*2*k:=by refine Nat.le_trans (zmz (k:=k) fun mv hmv=> ?_) (Nat.mul_le_mul_right _ (yli _));obtain ⟨n',e1,_,hg,hc,e2,_,_⟩:=qjq h hmv;rw [e2];unfold zor;rw [List.length_map];exact hk n' hg hc
theorem ysg [Dfr]:∀(k:Nat) (n:Tm),Good n→cntW n.row≤k→n.tr.length≤fct k
 |k,n,h,hc=>by
  cases ho:n.zhq with
  |true=>
   cases n<;>first|(cases ho;done)|skip
   rename_i s;have:=zao (c:=cmpT) [(([]:List ByteArray),s)];exact Nat.le_trans this (qlu k)
  |false=>
   rw [←ymw h ho];refine Nat.le_trans (zao _) ?_;cases k with
   |zero=>
    have e0:cntW n.row=0:=by omega
    have h1:=yli n.row;have:enL n.row=[]:=List.length_eq_zero_iff.1 (by omega);rw [this];exact Nat.zero_le _
   |succ k=>refine Nat.le_trans (qqg (k:=fct k) h fun n' hg hlt=>ysg k n' hg (by omega)) ?_;show cntW n.row*2*fct k≤(k+1)*2*fct k;exact Nat.mul_le_mul_right _ (Nat.mul_le_mul_right _ hc)
theorem yef [Dfr] {n:Tm} (h:Good n) (hc:cntW n.row≤8):((enL n.row).flatMap (qaz n.row)).length≤11000000:=by
 refine Nat.le_trans (qqg (k:=fct 7) h fun n' hg hlt=>ysg 7 n' hg (by omega)) ?_;have:cntW n.row*2*fct 7≤8*2*fct 7:=Nat.mul_le_mul_right _ (Nat.mul_le_mul_right _ hc);have e:8*2*fct 7≤11000000:=by decide
 omega
theorem qzk [Dfr] {n:Tm} (h:Good n) (hc:cntW n.row≤8):n.tr.length≤11000000:=by
 have:=ysg 8 n h hc;have e:fct 8≤11000000:=by decide
 omega
open Go Go.Sv Go.Proofs Go.Rd Go.RowKit
set_option maxRecDepth 100000
def ogF (F:Nat→Prop) (og:Option Nat) (b:Nat):Prop:=F b∨og=some b
def OwnO (F:Nat→Prop) (w:World) (e:TypeId) (u:Ty) (xs:List u.den) (v:Value):Option Nat→Prop
 |none=>xs=[]∧∃a,v= .slice a 0 0
 |some g=>OwnAt (ogF F (some g)) w e u xs g xs.length v
theorem qxs [Dfr] [zfm] {ty e tt:TypeId} {u:Ty} {i ie:TI} (hty:E.ti ty=some i) (hd:i.d= .slice e) (he:E.ti e=some ie) (hsz:ie.size=u.sz) {F:Nat→Prop} {w:World} {xs ys:List u.den} {v vx:Value} {og:Option Nat}
 (hF:∀b,F b→b<w.heap.size∧og≠some b) (hog:∀g,og=some g→g<w.heap.size) (hg:zfe E (ogF F og) w) (hown:OwnO F w e u xs v og) (hx:Cl (ogF F og) w (.slice e u) ys [vx]) (hroom:zai (xs.length+ys.length) ie.bytes=true):
 ∃v' w' og',(Builtin.append_ #[ty,ty] tt #[v,vx]).run Tryz.prog w= .ok v' w'∧OwnO F w' e u (xs++ys) v' og'∧Kept (fun b=>og=some b) w w'∧(∀g',og'=some g'→og=some g'∨w.heap.size≤g')∧∀g',og'=some g'→g'<w'.heap.size:=by
 let X:Ctx:={P:=Tryz.prog,E:=E,W:=w,G:=fun b=>og=some b,F0:=F,n:=0}
 let A:Fr:=⟨fun _=>none,fun m=>if m=1 then og.map (fun g=>(g,xs.length)) else none⟩
 have htg:∀m b l,A.tg m=some (b,l)→m=1∧og=some b∧l=xs.length:=fun m b l h=>by
  simp only [A] at h;split at h
  ·rename_i e1;cases og with
   |none=>cases h
   |some g=>simp only [Option.map_some,Option.some.injEq,Prod.mk.injEq] at h;exact ⟨e1,by rw [h.1],h.2.symm⟩
  ·cases h
 have hXF:X.F A=ogF F og:=funext fun b=>propext ⟨fun h=>by
  rcases h with h|⟨d,h⟩|⟨m,l,h⟩
  ·exact .inl h
  ·cases h
  ·exact .inr (htg m b l h).2.1,fun h=>by
  rcases h with h|h
  ·exact .inl h
  ·exact .inr (.inr ⟨1,xs.length,by simp [A,h]⟩)⟩
 have hi:Inv X A ⟨[],[]⟩ #[] w:=⟨rfl,Kept.refl _ _,by rw [hXF];exact hg,fun i=>trivial,fun d t c h=>(by simp [getB] at h),
  ⟨fun d b h=>(by cases h),fun m b l h=>⟨.inr (htg m b l h).2.1,hog b (htg m b l h).2.1⟩,fun d d' b h _=>(by cases h),fun m m' b l l' h h'=>(htg m b l h).1.trans (htg m' b l' h').1.symm,fun d m b l h _=>(by cases h),fun b h=>⟨(hF b h).1,(hF b h).2⟩⟩,fun z hz=>(by cases hz)⟩
 have hS:RC (X.F A) A w (.slice e u xs (.own 1)) v:=by
  rw [hXF];cases og with
  |none=>exact .inl ⟨rfl,hown.1,hown.2⟩
  |some g=>exact .inr ⟨g,xs.length,rfl,hown⟩
 have hX:RC (X.F A) A w (.slice e u ys .no) vx:=by rw [hXF];exact hx
 obtain ⟨v',w',hr,_,h2⟩:=quq (X:=X) (tt:=tt) (g:=.own 1) (g':=.no) (l:=[1,2]) (t:=2) (tab.types.ti _ _ hty) hd (tab.types.ti _ _ he) hsz hi hS hX (by simp) hroom (by simp) (fun n h=>by cases h;simp);obtain ⟨A',hi',hrc⟩:=h2 (by simp);rcases hrc with ⟨_,hnil,ha⟩|⟨g',l',ht',hown'⟩
 ·exact ⟨v',w',none,hr,⟨hnil,ha⟩,hi'.kept,fun _ h=>(by cases h),fun _ h=>(by cases h)⟩
 ·have hmine:=hi'.good.tgm _ _ _ ht';refine ⟨v',w',some g',hr,?_,hi'.kept,fun g'' h=>(by
   cases h;rcases hmine.1 with h|h
   ·exact .inr h
   ·exact .inl h),fun g'' h=>(by cases h;exact hmine.2)⟩
  obtain ⟨hl,cap,cur,hv,hh,q1,q2,q3,q4⟩:=hown';refine ⟨rfl,cap,cur,hv,hh,q1,q2,q3,fun i x hx=> ?_⟩;obtain ⟨ds,hd,hj⟩:=q4 i x hx;refine ⟨ds,Cl.lift (fun b hb=> ?_) hd,hj⟩;rcases hb with hb|hb
  ·exact .inl hb
  ·cases hb;exact .inr (.inr ⟨2,l',ht'⟩)
theorem qwx [Dfr] [zfm] {ops:Array Oper} {rest:List Oper} {o:Oper} {a:Act} {Q:Exit→Act→World→Prop} {w:World} (hgd:o.guard=none) (s x:Operand) (ty:TypeId) (hop:o.op=Op.call {callee:=Callee.builtin Builtin.append,args:= #[s,x],argTypes:= #[ty,ty]})
 {e:TypeId} {u:Ty} {i ie:TI} (hty:E.ti ty=some i) (hd:i.d= .slice e) (he:E.ti e=some ie) (hsz:ie.size=u.sz) {F:Nat→Prop} {xs ys:List u.den} {v vx:Value} {og:Option Nat} (hs:a.eval s=v) (hx:a.eval x=vx)
 (hF:∀b,F b→b<w.heap.size∧og≠some b) (hog:∀g,og=some g→g<w.heap.size) (hg:zfe E (ogF F og) w) (hown:OwnO F w e u xs v og) (hcl:Cl (ogF F og) w (.slice e u) ys [vx]) (hroom:zai (xs.length+ys.length) ie.bytes=true)
 (hK:∀v' w' og',OwnO F w' e u (xs++ys) v' og'→Kept (fun b=>og=some b) w w'→(∀g',og'=some g'→og=some g'∨w.heap.size≤g')→(∀g',og'=some g'→g'<w'.heap.size)→wpList Tryz.prog ops Q rest (a.put o.dst v') w'):wpList Tryz.prog ops Q (o::rest) a w:=by
 refine wpList_plain hgd fun K hK'=> ?_
 obtain ⟨v',w',og',hrun,r1,r2,r3,r4⟩:=qxs (tt:=o.type) hty hd he hsz hF hog hg hown hcl hroom;unfold Oper.wp;simp [execOp,hop,resolve,invoke,builtin,hs,hx,hrun,Result.andThen];exact hK' _ _ (hK v' w' og' r1 r2 r3 r4)
theorem xez [Dfr] {F:Nat→Prop} {w:World} {e:TypeId} {u:Ty} {xs:List u.den} {v:Value} {og:Option Nat} (h:OwnO F w e u xs v og) (hF:∀g,og=some g→¬F g):Cl F w (.slice e u) xs [v]:=by
 cases og with
 |none=>obtain ⟨rfl,a,rfl⟩:=h;rw [Cl];exact ⟨a,0,rfl,Nat.le_refl _,.inl rfl⟩
 |some g=>obtain ⟨_,cap,cur,rfl,hh,hc,hm,hs,hel⟩:=h;rw [Cl];refine ⟨_,cap,rfl,hc,.inr ⟨_,rfl,hF g rfl,fun i x hi=> ?_⟩⟩;obtain ⟨ds,hd,hj⟩:=hel i x hi;refine ⟨ds,Cl.lift (fun b hb=>.inl hb) hd,fun j u hu=> ?_⟩;have:=hj j u hu;rw [zjf,cell_of_block hh,Nat.zero_add];exact this
theorem qds [Dfr] {F:Nat→Prop} {w w':World} {e:TypeId} {u:Ty} {xs:List u.den} {v:Value} {og:Option Nat} (h:OwnO F w e u xs v og) (S:Step (ogF F og) (ogF F og) w w') (hb:∀g,og=some g→w'.heap[g]? =w.heap[g]?):OwnO F w' e u xs v og:=by
 cases og with
 |none=>exact h
 |some g=>exact OwnAt.step S (hb g rfl) h
theorem zbq [Dfr] {F:Nat→Prop} {G:Nat→Prop} {w w':World} (hk:Kept G w w') (hG:∀b,G b→F b):Step F F w w':=
 ⟨fun b hb hlt=>hk.block b hlt fun h=>hb (hG b h),fun b h=>.inl h⟩
abbrev TcY:Ty:=.pair (.slice 9 .str) (.int .i64)
abbrev MvY:Ty:=.pair (.int .i64) (.int .i64)
abbrev StY:Ty:=.slice 9 .str
theorem zen [Dfr] {F:Nat→Prop} {w:World} {e:TypeId} {u:Ty} {xs:List u.den} {v:Value} (h:Cl F w (.slice e u) xs [v]):∃s c,v= .slice s xs.length c:=by rw [Cl] at h;obtain ⟨s,c,e,_⟩:=h;exact ⟨s,c,(List.cons.inj e).1⟩
section
variable {W:World} {F:Nat→Prop}
theorem zzr [Dfr] [zfm] {l:List Nd} {s:Int} {b:Bool} (h:zfp l=some (s,b)) {v:Value} (hF:∀b,F b→b<W.heap.size) (hg:zfe E F W) (hc:Cl F W (.slice 68 NdY) l [v]):
 Calls Tryz.prog 44 #[v] W fun e w'=>e= .returned (.tuple #[.int .i64 s,.bool b])∧Kept (fun _=>False) W w':=by
 refine (zkt 44 l (s,b) (((qnw l).iff _).1 h) hF hg (vs:=[v]) (.cons hc .nil)).mono ?_;rintro e w' ⟨u,rfl,hk,T,hr,_,_⟩;have hr':RP (T.F F) T w' (.tup [.one (.int .i64 s),.one (.bool b)]) u:=hr;obtain ⟨vs,rfl,hu⟩:=hr';cases hu with
 |cons h0 hu=>cases hu with
  |cons h1 hu=>cases hu;cases h0;cases h1;exact ⟨rfl,hk⟩
theorem qjv [Dfr] [zfm] {l:List Nd} {ms:List Mv} (h:zfr l=some ms) {v:Value} (hF:∀b,F b→b<W.heap.size) (hg:zfe E F W) (hc:Cl F W (.slice 68 NdY) l [v]):
 Calls Tryz.prog 28 #[v] W fun e w'=>∃s c,e= .returned (.slice s ms.length c)∧Kept (fun _=>False) W w'∧Cl F w' (.slice 71 MvY) ms [.slice s ms.length c]:=by
 refine (zkt 28 l ms (((qob l).iff _).1 h) hF hg (vs:=[v]) (.cons hc .nil)).mono ?_;rintro e w' ⟨u,rfl,hk,T,hr,_,hn⟩;obtain ⟨g,hg2,hr'⟩:∃g:Tag,g≠.nil∧RP (T.F F) T w' (.sv (.one (.slice 71 MvY ms g))) u:=by first|exact ⟨.no,(by simp),hr⟩|exact ⟨.own (zcc 0 0 0),(by simp),hr⟩
 have hcl:Cl F w' (.slice 71 MvY) ms [u]:=qrj hn hg2 hr';obtain ⟨s,c,rfl⟩:=zen hcl;exact ⟨s,c,rfl,hk,hcl⟩
theorem qxt [Dfr] [zfm] {l l':List Nd} {m:Mv} {nm:ByteArray} {z:Int} (h:zsq l m=some (l',nm,z)) {v:Value} (hF:∀b,F b→b<W.heap.size) (hg:zfe E F W) (hc:Cl F W (.slice 68 NdY) l [v]):
 Calls Tryz.prog 41 #[v,.agg #[.int .i64 m.1,.int .i64 m.2]] W fun e w'=>∃s c,e= .returned (.tuple #[.slice s l'.length c,.string nm,.int .i64 z])∧Kept (fun _=>False) W w'∧Cl F w' (.slice 68 NdY) l' [.slice s l'.length c]:=by
 refine (zkt 41 (l,m) (l',nm,z) (((qzv l m).iff _).1 h) hF hg (vs:=[v,.agg #[.int .i64 m.1,.int .i64 m.2]]) (.cons hc (.cons ⟨[.int .i64 m.1,.int .i64 m.2],rfl,.cons rfl (.cons rfl .nil)⟩ .nil))).mono ?_;rintro e w' ⟨u,rfl,hk,T,hr,_,hn⟩;obtain ⟨g,hg2,hr'⟩:∃g:Tag,g≠.nil∧RP (T.F F) T w' (.tup [.one (.slice 68 NdY l' g),.one (.str nm),.one (.int .i64 z)]) u:=by first|exact ⟨.no,(by simp),hr⟩|exact ⟨.own (zcc 0 0 0),(by simp),hr⟩
 obtain ⟨vs,rfl,hu⟩:=hr';cases hu with
 |cons h0 hu=>cases hu with
  |cons h1 hu=>cases hu with
   |cons h2 hu=>cases hu;cases h1;cases h2;have hcl:=qrj hn hg2 h0;obtain ⟨s,c,rfl⟩:=zen hcl;exact ⟨s,c,rfl,hk,hcl⟩
theorem yoy [Dfr] [zfm] {p q r:Tc} (h:zjn p q=some r) {va vb:Value} (hF:∀b,F b→b<W.heap.size) (hg:zfe E F W) (ha:Cl F W StY p.1 [va]) (hb:Cl F W StY q.1 [vb]):
 Calls Tryz.prog 85 #[.agg #[va,.int .i64 p.2],.agg #[vb,.int .i64 q.2]] W fun e w'=>∃s c,e= .returned (.agg #[.slice s r.1.length c,.int .i64 r.2])∧Kept (fun _=>False) W w'∧Cl F w' StY r.1 [.slice s r.1.length c]:=by
 refine (zkt 85 (p,q) r (((quy p q).iff _).1 h) hF hg (vs:=[.agg #[va,.int .i64 p.2],.agg #[vb,.int .i64 q.2]]) (.cons ⟨[va,.int .i64 p.2],rfl,.cons ha (.cons rfl .nil)⟩ (.cons ⟨[vb,.int .i64 q.2],rfl,.cons hb (.cons rfl .nil)⟩ .nil))).mono ?_;rintro e w' ⟨u,rfl,hk,T,hr,_,hn⟩;obtain ⟨g,hg2,hr'⟩:∃g:Tag,g≠.nil∧RP (T.F F) T w' (.sv (.agg [.slice 9 .str r.1 g,.int .i64 r.2])) u:=by first|exact ⟨.no,(by simp),hr⟩|exact ⟨.own (zcc 0 0 0),(by simp),hr⟩
 obtain ⟨vs,rfl,hu⟩:=hr';cases hu with
 |cons h0 hu=>cases hu with
  |cons h1 hu=>cases hu;cases h1;have hcl:=qrj hn hg2 h0;obtain ⟨s,c,rfl⟩:=zen hcl;exact ⟨s,c,rfl,hk,hcl⟩
theorem yev [Dfr] [zfm] {l r:List Tc} (h:zfn l=some r) {v:Value} (hF:∀b,F b→b<W.heap.size) (hg:zfe E F W) (hc:Cl F W (.slice 33 TcY) l [v]):
 Calls Tryz.prog 48 #[v] W fun e w'=>∃s c,e= .returned (.slice s r.length c)∧Kept (fun _=>False) W w'∧Cl F w' (.slice 33 TcY) r [.slice s r.length c]:=by
 refine (zkt 48 l r (((qze l).iff _).1 h) hF hg (vs:=[v]) (.cons hc .nil)).mono ?_;rintro e w' ⟨u,rfl,hk,T,hr,_,hn⟩;obtain ⟨g,hg2,hr'⟩:∃g:Tag,g≠.nil∧RP (T.F F) T w' (.sv (.one (.slice 33 TcY r g))) u:=by first|exact ⟨.no,(by simp),hr⟩|exact ⟨.own (zcc 0 0 0),(by simp),hr⟩
 have hcl:Cl F w' (.slice 33 TcY) r [u]:=qrj hn hg2 hr';obtain ⟨s,c,rfl⟩:=zen hcl;exact ⟨s,c,rfl,hk,hcl⟩
theorem yhk [Dfr] [zfm] {l:List Tc} {t:Tc} {b:Bool} (h:zwj l t=some b) {v vt:Value} (hF:∀b,F b→b<W.heap.size) (hg:zfe E F W) (hc:Cl F W (.slice 33 TcY) l [v]) (ht:Cl F W StY t.1 [vt]):
 Calls Tryz.prog 33 #[v,.agg #[vt,.int .i64 t.2]] W fun e w'=>e= .returned (.bool b)∧Kept (fun _=>False) W w':=by
 refine (zkt 33 (l,t) b (((qzh l t).iff _).1 h) hF hg (vs:=[v,.agg #[vt,.int .i64 t.2]]) (.cons hc (.cons ⟨[vt,.int .i64 t.2],rfl,.cons ht (.cons rfl .nil)⟩ .nil))).mono ?_;rintro e w' ⟨u,rfl,hk,T,hr,_,hn⟩;cases (show u= .bool b from hr);exact ⟨rfl,hk⟩
theorem qhh [Dfr] [zfm] {l:List Nd} {z:Int} (h:qdg l=some z) {v:Value} (hF:∀b,F b→b<W.heap.size) (hg:zfe E F W) (hc:Cl F W (.slice 68 NdY) l [v]):
 Calls Tryz.prog 47 #[v] W fun e w'=>e= .returned (.int .i64 z)∧Kept (fun _=>False) W w':=by
 refine (zkt 47 l z (((qvl l).iff _).1 h) hF hg (vs:=[v]) (.cons hc .nil)).mono ?_;rintro e w' ⟨u,rfl,hk,T,hr,_,hn⟩;cases (show u= .int .i64 z from hr);exact ⟨rfl,hk⟩
theorem ypv [Dfr] [zfm] {t r:Tc} {nm:ByteArray} {b:Bool} (h:qin t nm=some (r,b)) {vt:Value} (hF:∀b,F b→b<W.heap.size) (hg:zfe E F W) (ht:Cl F W StY t.1 [vt]):
 Calls Tryz.prog 52 #[.agg #[vt,.int .i64 t.2],.string nm] W fun e w'=>∃s c,e= .returned (.tuple #[.agg #[.slice s r.1.length c,.int .i64 r.2],.bool b])∧Kept (fun _=>False) W w'∧Cl F w' StY r.1 [.slice s r.1.length c]:=by
 refine (zkt 52 (t,nm) (r,b) (((yam t nm).iff _).1 h) hF hg (vs:=[.agg #[vt,.int .i64 t.2],.string nm]) (.cons ⟨[vt,.int .i64 t.2],rfl,.cons ht (.cons rfl .nil)⟩ (.cons rfl .nil))).mono ?_;rintro e w' ⟨u,rfl,hk,T,hr,_,hn⟩;obtain ⟨g,hg2,hr'⟩:∃g:Tag,g≠.nil∧RP (T.F F) T w' (.tup [.agg [.slice 9 .str r.1 g,.int .i64 r.2],.one (.bool b)]) u:=by first|exact ⟨.no,(by simp),hr⟩|exact ⟨.own (zcc 0 0 0),(by simp),hr⟩
 obtain ⟨vs,rfl,hu⟩:=hr';cases hu with
 |cons h0 hu=>cases hu with
  |cons h1 hu=>
   cases hu;cases h1;obtain ⟨ws,rfl,hw⟩:=h0;cases hw with
   |cons k0 hw=>cases hw with
    |cons k1 hw=>cases hw;cases k1;have hcl:=qrj hn hg2 k0;obtain ⟨s,c,rfl⟩:=zen hcl;exact ⟨s,c,rfl,hk,hcl⟩
end
attribute [local go_sem] Oper.semAt_some
def keyB (l:List Nd):ByteArray:=⟨(keyL l).toArray⟩
theorem ynv [Dfr] {m n:Tm} (hm:m.fine) (hn:n.fine) (h:keyB m.row=keyB n.row):m=n:=by
 unfold keyB at h;injection h with h;have h2:keyL m.row=keyL n.row:=by
  have:=congrArg Array.toList h
  simpa using this
 exact Tm.qkx (ynu (zlh hm) (zlh hn) h2)
structure Memo (F:Nat→Prop) (w:World) (kb eb mb:Nat):Prop where
 known:w.heap[kb]? =some (.cells #[.map (some mb)] 111 (0,0))
 self:w.heap[eb]? =some (.cells #[zhh 83 kb eb] 82 (0,0))
 map:∃es clk,w.heap[mb]? =some (.map es clk)∧∀x∈es.toList,∃n:Tm,Good n∧x.key= .string (keyB n.row)∧Cl F w (.slice 33 TcY) n.tr [x.val]
 kF:¬F kb
 eF:¬F eb
 mF:F mb
theorem Memo.lt [Dfr] {F:Nat→Prop} {w:World} {kb eb mb:Nat} (h:Memo F w kb eb mb):kb<w.heap.size∧eb<w.heap.size∧mb<w.heap.size:=by obtain ⟨es,clk,h3,_⟩:=h.map;exact ⟨(Array.getElem?_eq_some_iff.1 h.known).1,(Array.getElem?_eq_some_iff.1 h.self).1,(Array.getElem?_eq_some_iff.1 h3).1⟩
theorem Memo.step [Dfr] {F F':Nat→Prop} {w w':World} {kb eb mb:Nat} (h:Memo F w kb eb mb) (S:Step F F' w w') (hb:w'.heap[mb]? =w.heap[mb]?) (hF:F' mb):Memo F' w' kb eb mb:=by
 obtain ⟨l1,l2,l3⟩:=h.lt;obtain ⟨es,clk,h3,h4⟩:=h.map;refine ⟨(S.keep kb h.kF l1).trans h.known,(S.keep eb h.eF l2).trans h.self,⟨es,clk,hb.trans h3,fun x hx=> ?_⟩,fun hk=> ?_,fun hk=> ?_,hF⟩
 ·obtain ⟨n,g1,g2,g3⟩:=h4 x hx;exact ⟨n,g1,g2,g3.step S⟩
 ·rcases S.sub kb hk with hk|hk
  ·exact h.kF hk
  ·omega
 ·rcases S.sub eb hk with hk|hk
  ·exact h.eF hk
  ·omega
theorem Memo.kept [Dfr] {F:Nat→Prop} {w w':World} {kb eb mb:Nat} (h:Memo F w kb eb mb) (hk:Kept (fun _=>False) w w'):Memo F w' kb eb mb:=
 h.step (zbq hk fun _ h=>h.elim) (hk.block mb h.lt.2.2 id) h.mF
def xdf [Dfr] (n:Tm):Prop:=∀(w:World) (F:Nat→Prop) (v:Value) (kb eb mb:Nat),(∀b,F b→b<w.heap.size)→zfe E F w→Cl F w (.slice 68 NdY) n.row [v]→Memo F w kb eb mb→
 Calls Tryz.prog 83 #[v,.pointer (some ⟨kb,0,none⟩),.pointer (some ⟨eb,0,none⟩)] w fun e w'=>∃s c,e= .returned (.slice s n.tr.length c)∧Kept (fun b=>b=mb) w w'∧Memo F w' kb eb mb∧Cl F w' (.slice 33 TcY) n.tr [.slice s n.tr.length c]
def xlc [Dfr]:Prop:=∀(n:Tm),n.fine→n.size≤200→∀(w:World) (F:Nat→Prop) (v:Value),(∀b,F b→b<w.heap.size)→zfe E F w→Cl F w (.slice 68 NdY) n.row [v]→
 Calls Tryz.prog 84 #[v] w fun e w'=>e= .returned (.string (keyB n.row))∧Kept (fun _=>False) w w'
theorem zpu [Dfr] (w:World) (cs:Array Value) (e:TypeId) (k:Nat) (v:Value) (h:cs[k]? =some v):(w.alloc (.cells cs e)).cell? ⟨w.heap.size,k,none⟩=some v:=by
 have:(w.alloc (.cells cs e)).heap[w.heap.size]? =some (.cells cs e (0,0)):=by show (w.heap.push _)[w.heap.size]? =_;rw [Array.getElem?_push,if_pos rfl]
 rw [cell_of_block this];exact h
theorem zcz [Dfr] (w:World) (o:Obj):Kept (fun _=>False) w (w.alloc o):=(Kept.refl _ w).alloc o
theorem yul [Dfr] {F:Nat→Prop} {w:World} {mb:Nat} (o:Obj) (hm:F mb):Step F F w (putO w mb o):=
 ⟨fun b hb hl=>by show (w.heap.setIfInBounds mb o)[b]? =_;rw [Array.getElem?_setIfInBounds,if_neg (show ¬mb=b from fun e=>hb (e▸hm))],fun b h=>.inl h⟩
theorem yum [Dfr] (w:World) (mb:Nat) (o:Obj):Kept (fun b=>b=mb) w (putO w mb o):=by
 refine ⟨rfl,rfl,rfl,?_,fun b hb h=> ?_,Nat.le_refl _⟩
 ·show w.heap.size≤(w.heap.setIfInBounds mb o).size;simp
 ·show (w.heap.setIfInBounds mb o)[b]? =_;rw [Array.getElem?_setIfInBounds,if_neg (fun e=>h e.symm)]
theorem xhg [Dfr] (w:World) {mb:Nat} (o:Obj) (h:mb<w.heap.size):(putO w mb o).heap[mb]? =some o:=by show (w.heap.setIfInBounds mb o)[mb]? =_;simp [Array.getElem?_setIfInBounds,h]
theorem zof [Dfr] {G:Nat→Prop} {w w':World} (h:Kept (fun _=>False) w w'):Kept G w w':=⟨h.os,h.tape,h.output,h.size,fun b hb _=>h.block b hb id,h.drawn⟩
theorem xfa [Dfr] {F:Nat→Prop} {w:World} {A:List ByteArray} {z:Int} {s:Option Addr} {n c:Nat} (hF:∀b,F b→b<w.heap.size) (h:Cl F w StY A [.slice s n c]):
 Cl F (w.alloc (.cells #[.slice s n c,.int .i64 z] 33)) (.slice 33 TcY) [(A,z)] [.slice (some ⟨w.heap.size,0,none⟩) 1 1]:=by
 rw [Cl];refine ⟨_,1,rfl,Nat.le_refl _,.inr ⟨_,rfl,fun hf=>by have:=hF _ hf;simp only at this;omega,fun i x hi=> ?_⟩⟩;cases i with
 |succ i=>simp at hi
 |zero=>
  have hi':some (A,z)=some x:=hi;cases hi';refine ⟨[.slice s n c,.int .i64 z],?_,fun j u hj=> ?_⟩
  ·rw [Cl];exact ⟨[.slice s n c],[.int .i64 z],rfl,h.step (zbq (zcz w _) fun _ h=>h.elim),by rw [Cl]⟩
  ·match j,hj with
   |0,hj=>exact zpu w _ _ 0 u hj
   |1,hj=>exact zpu w _ _ 1 u hj
theorem xfy [Dfr] (s:Int):(Tm.over s).tr=[([],s)]:=rfl
set_option maxHeartbeats 3200000 in
theorem xcq [Dfr] [zfm] (s:Int):xdf (.over s):=by intro w F v kb eb mb hF hg hc hm;have hE:zfp (Tm.over s).row=some (s,true):=zjo (.over s);go_enter Tryz.func83,Tryz.ntmps83;go_wp2_with (go_at_fn 44);refine (zzr hE hF hg hc).mono ?_;rintro e w1 ⟨rfl,hk1⟩;go_wp2;go_ret;have hsz:=hk1.size;have hm1:=hm.kept hk1;refine ⟨some ⟨w1.heap.size,0,none⟩,1,rfl,zof (hk1.trans (zcz w1 _) fun _ h=>h.elim),hm1.kept (zcz w1 _),?_⟩;rw [xfy];refine xfa (fun b hb=>by have:=hF b hb;omega) ?_;rw [Cl];exact ⟨none,0,rfl,Nat.le_refl _,.inl rfl⟩
theorem yxg [Dfr] {w:World} {a:Addr} {v:Value} (h:w.cell? a=some v):∃b o,a=⟨b,o,none⟩:=by
 obtain ⟨b,o,sp⟩:=a;cases sp with
 |none=>exact ⟨b,o,rfl⟩
 |some q=>
  simp only [World.cell?] at h;split at h
  ·simp at h
  ·cases h
theorem zds [Dfr] {w w':World} {G:Nat→Prop} (hk:Kept G w w') {a:Addr} {v:Value} (hG:¬G a.block) (h:w.cell? a=some v):w'.cell? a=some v:=by have hlt:=World.block_lt_of_cell? w a h;have:=hk.block a.block hlt hG;simp only [World.cell?,this] at h ⊢;exact h
theorem yts [Dfr] [zfm] {t e:TypeId} {u:Ty} {i ie:TI} (hty:E.ti t=some i) (hd:i.d= .slice e) (he:E.ti e=some ie) (hsz:ie.size=u.sz) {F:Nat→Prop} {W:World} {xs:List u.den} {s:Option Addr} {c:Nat} (h:Cl F W (.slice e u) xs [.slice s xs.length c]) {k:Nat} (hk:k<xs.length):
 ∃(ab ao:Nat) (ds:List Value),(∀W':World,(Instr.indexAt t (.slice s xs.length c) (.int .i64 (k:Int))).run Tryz.prog W'= .ok (.pointer (some ⟨ab,ao,none⟩)) W')∧¬F ab∧Cl F W u xs[k] ds∧∀j v,ds[j]? =some v→W.cell? ⟨ab,ao+j,none⟩=some v:=by
 rw [Cl] at h;obtain ⟨A',c',e1,hc,h2⟩:=h;simp only [List.cons.injEq,Value.slice.injEq,and_true] at e1;obtain ⟨rfl,_,rfl⟩:=e1;rcases h2 with h2|⟨a,rfl,hF,hel⟩
 ·rw [h2] at hk;cases hk
 ·obtain ⟨ds,hds,hj⟩:=hel k xs[k] (List.getElem?_eq_getElem hk);have hlen:=hds.length;have hpos:=Ty.zpw u;obtain ⟨v0,hv0⟩:∃v0,ds[0]? =some v0:=⟨ds[0]'(by omega),List.getElem?_eq_getElem (by omega)⟩;have h0:=hj 0 v0 hv0;have hadd:∀j,a.add (k*u.sz+j)=(a.add (k*u.sz)).add j:=fun j=>by
   unfold Addr.add;by_cases h1:k*u.sz=0
   ·simp [h1]
   ·by_cases h2:j=0
    ·simp [h2]
    ·simp [h1,h2,Nat.add_assoc]
  have hblk:(a.add (k*u.sz)).block=a.block:=by unfold Addr.add;split<;>rfl
  rw [Nat.add_zero] at h0;obtain ⟨b,o,hbo⟩:=yxg h0;have hie:=(tab.types.ti _ _ he).info;obtain ⟨ti,hti,hts,_⟩:=hie;refine ⟨b,o,ds,fun W'=> ?_,by rw [hbo] at hblk;rw [show b=a.block from hblk];exact hF,hds,fun j v hv=> ?_⟩
  ·have:=qgv (tab.types.ti _ _ hty) hd a xs.length c .i64 (k:Int) ⟨by omega,by omega⟩ hti W';rw [Int.toNat_natCast,hts,hsz,hbo] at this;exact this
  ·have:=hj j v hv;rw [hadd,hbo,zjf] at this;exact this
theorem xkc [Dfr] [zfm] {F:Nat→Prop} {W:World} {xs:List Mv} {s:Option Addr} {c:Nat} (h:Cl F W (.slice 71 MvY) xs [.slice s xs.length c]) {k:Nat} (hk:k<xs.length):
 ∃ab ao,(∀W':World,(Instr.indexAt 58 (.slice s xs.length c) (.int .i64 (k:Int))).run Tryz.prog W'= .ok (.pointer (some ⟨ab,ao,none⟩)) W')∧¬F ab∧W.cell? ⟨ab,ao,none⟩=some (.int .i64 xs[k].1)∧W.cell? ⟨ab,ao+1,none⟩=some (.int .i64 xs[k].2):=by
 obtain ⟨ab,ao,ds,h1,h2,h3,h4⟩:=yts (t:=58) rfl rfl rfl rfl h hk;rw [Cl] at h3;obtain ⟨c1,c2,rfl,e1,e2⟩:=h3;rw [Cl] at e1 e2;subst e1;subst e2;exact ⟨ab,ao,h1,h2,h4 0 _ rfl,h4 1 _ rfl⟩
theorem xlf [Dfr] [zfm] {F:Nat→Prop} {W:World} {xs:List Tc} {s:Option Addr} {c:Nat} (h:Cl F W (.slice 33 TcY) xs [.slice s xs.length c]) {k:Nat} (hk:k<xs.length):
 ∃ab ao va,(∀W':World,(Instr.indexAt 43 (.slice s xs.length c) (.int .i64 (k:Int))).run Tryz.prog W'= .ok (.pointer (some ⟨ab,ao,none⟩)) W')∧¬F ab∧W.cell? ⟨ab,ao,none⟩=some va∧W.cell? ⟨ab,ao+1,none⟩=some (.int .i64 xs[k].2)∧Cl F W StY xs[k].1 [va]:=by
 obtain ⟨ab,ao,ds,h1,h2,h3,h4⟩:=yts (t:=43) rfl rfl rfl rfl h hk;rw [Cl] at h3;obtain ⟨c1,c2,rfl,e1,e2⟩:=h3;rw [Cl] at e2;subst e2;obtain ⟨s',c',rfl⟩:∃s' c',c1=[Value.slice s' xs[k].1.length c']:=by have e:=e1;rw [Cl] at e;obtain ⟨s',c',e,_⟩:=e;exact ⟨s',c',e⟩
 exact ⟨ab,ao,_,h1,h2,h4 0 _ rfl,h4 1 _ rfl,e1⟩
set_option maxHeartbeats 6400000 in
theorem xcr [Dfr] [zfm] [zda] [zew] [zlf] (hkey:xlc) {n:Tm} (hn:Good n) (ho:n.zhq=false) (h8:cntW n.row≤8) (hIH:∀n':Tm,Good n'→cntW n'.row<cntW n.row→xdf n'):xdf n:=by
 intro w F v kb eb mb hF hg hc hm;have hE:zfp n.row=some (0,false):=by rw [zjo n];cases n<;>first|rfl|cases ho
 have hz:∀w,(zeroValue 43).run Tryz.prog w= .ok (.slice none 0 0) w:=fun w=>Tryz.zeroValue43 w
 have hlen:=hn.len;go_enter Tryz.func83,Tryz.ntmps83;go_wp2_with (go_at_fn 44);refine (zzr hE hF hg hc).mono ?_;rintro e w1 ⟨rfl,hk1⟩;have s1:Step F F w w1:=zbq hk1 fun _ h=>h.elim
 have hF1:∀b,F b→b<w1.heap.size:=fun b hb=>Nat.lt_of_lt_of_le (hF b hb) hk1.size
 have hm1:=hm.kept hk1;go_wp2_with (go_at_fn 84);refine (hkey n hn.1 (by have:=hn.2.2.2.1;omega) w1 F v hF1 (hg.step s1) (hc.step s1)).mono ?_;rintro e w2 ⟨rfl,hk2⟩;have hk02:Kept (fun _=>False) w w2:=hk1.trans hk2 fun _ h=>h.elim
 have s2:Step F F w w2:=zbq hk02 fun _ h=>h.elim
 have hF2:∀b,F b→b<w2.heap.size:=fun b hb=>Nat.lt_of_lt_of_le (hF b hb) hk02.size
 have hm2:=hm1.kept hk2;have hcell:w2.cell? ⟨kb,0,none⟩=some (.map (some mb)):=by rw [cell_of_block hm2.known];rfl
 obtain ⟨es,clk,hes,hent⟩:=hm2.map;have hkeys:qhi es:=fun x hx=>by obtain ⟨m,_,e,_⟩:=hent x hx;exact ⟨_,e⟩
 rcases qst (k:=keyB n.row) Tryz.underlying111 Tryz.underlying9 hes hkeys with ⟨x,hx,hxk,hl1,_⟩|⟨hno,hl0⟩
 ·obtain ⟨m,g1,g2,g3⟩:=hent x hx;have e:m=n:=ynv g1.1 hn.1 (by rw [g2] at hxk;exact Value.string.inj hxk);subst e;obtain ⟨s',c',hv'⟩:=zen g3;go_wp2;go_ret;refine ⟨s',c',?_,zof hk02,hm2,by rw [←hv'];exact g3⟩;rfl
 ·have hl1:=hl0 _ (hz w2);go_wp2_with (go_at_fn 28);clear hl1 hl0 hcell hz;refine (qjv (zku n.row (by omega)) hF2 (hg.step s2) (hc.step s2)).mono ?_;rintro e w3 ⟨sM,cM,rfl,hk3,hcM⟩;have hk03:Kept (fun _=>False) w w3:=hk02.trans hk3 fun _ h=>h.elim
  have hm3:=hm2.kept hk3;have hF3:∀b,F b→b<w3.heap.size:=fun b hb=>Nat.lt_of_lt_of_le (hF b hb) hk03.size
  have hL:=qlx n.row;go_wp2;go_loopw [10,41] (fun v10 v41 wr=>∃(k:Nat) (og:Option Nat),v41= .int .i64 (k:Int)∧k≤(enL n.row).length∧OwnO F wr 33 TcY (((enL n.row).take k).flatMap (qaz n.row)) v10 og∧(∀g,og=some g→w3.heap.size≤g∧g<wr.heap.size)∧
   Memo (ogF F og) wr kb eb mb∧Kept (fun b=>b=mb) w3 wr) (fun _ v41 _=>(enL n.row).length-(intOf v41).toNat)
  case atStart=>
   refine ⟨0,none,rfl,Nat.zero_le _,⟨rfl,none,rfl⟩,fun _ h=>(by cases h),?_,Kept.refl _ _⟩;exact hm3.step ⟨fun _ _ _=>rfl,fun b hb=>by
    rcases hb with hb|hb
    ·exact .inl hb
    ·cases hb⟩ rfl (.inl hm3.mF)
  case round=>
   obtain ⟨k,og,rfl,hk,hown,hog,hmr,hkr⟩:=hrel;by_cases hlt:k<(enL n.row).length
   ·have hk0r:Kept (fun b=>b=mb) w wr:=(zof hk03).trans hkr fun x h=>.inl h
    have hogw:∀g,og=some g→w.heap.size≤g:=fun g h=>Nat.le_trans hk03.size (hog g h).1
    have S0:Step F (ogF F og) w wr:=⟨fun b hb hl=>hk0r.block b hl fun e=>hb (e▸hm.mF),fun b hb=>hb.imp id fun h=>hogw b h⟩;have S3:Step F (ogF F og) w3 wr:=⟨fun b hb hl=>hkr.block b hl fun e=>hb (e▸hm.mF),fun b hb=>hb.imp id fun h=>(hog b h).1⟩;have hFr:∀b,ogF F og b→b<wr.heap.size:=fun b hb=>by
     rcases hb with hb|hb
     ·exact Nat.lt_of_lt_of_le (hF b hb) hk0r.size
     ·exact (hog b hb).2
    obtain ⟨ab,ao,hix,hab,hc0,hc1⟩:=xkc (hcM.step S3) hlt;have hmem:(enL n.row)[k]∈enL n.row:=List.getElem_mem hlt;have hdrop:(enL n.row).take (k+1)=(enL n.row).take k++[(enL n.row)[k]]:=by rw [List.take_add_one,List.getElem?_eq_getElem hlt];rfl
    obtain ⟨mv,hmv⟩:∃mv,(enL n.row)[k]=mv:=⟨_,rfl⟩;rw [hmv] at hmem hdrop hc0 hc1;obtain ⟨n',e1,e2,hg',hcnt,hst,hsz',_⟩:=qjq hn hmem;obtain ⟨_,_,_,hnm⟩:=qsm hmem;obtain ⟨nm,hnmE⟩:∃nm,(zge n.row mv).2.1=nm:=⟨_,rfl⟩;rw [hnmE] at hnm hst;have hN:zsq n.row mv=some (n'.row,nm,0):=by rw [qfw n.row mv (by omega)];exact congrArg some (Prod.ext e1 (Prod.ext hnmE e2))
    go_wp2_with (go_at_fn 41);obtain ⟨WA,hWA⟩:∃WA,wr.alloc (Obj.cells #[Value.int IntKind.i64 mv.1,Value.int IntKind.i64 mv.2] 71)=WA:=⟨_,rfl⟩;have kA:Kept (fun _=>False) wr WA:=hWA▸zcz wr _;have sA:Step (ogF F og) (ogF F og) wr WA:=zbq kA fun _ h=>h.elim
    have hcA1:WA.cell? ⟨wr.heap.size,1,none⟩=some (.int .i64 mv.2):=by rw [←hWA];exact zpu wr _ _ 1 _ rfl
    have hFA:∀b,ogF F og b→b<WA.heap.size:=fun b hb=>Nat.lt_of_lt_of_le (hFr b hb) kA.size
    rw [hWA];refine (qxt hN hFA ((hg.step S0).step sA) ((hc.step S0).step sA)).mono ?_;rintro e w4 ⟨sN,cN,rfl,hk4,hcN⟩;have hc4:w4.cell? ⟨wr.heap.size,1,none⟩=some (.int .i64 mv.2):=zds hk4 id hcA1;have k4:Kept (fun _=>False) wr w4:=kA.trans hk4 fun _ h=>h.elim
    have hmr4:Memo (ogF F og) w4 kb eb mb:=hmr.kept k4;have hgB:∀W,Kept (fun _=>False) w4 W→zfe E (ogF F og) W∧(∀b,ogF F og b→b<W.heap.size)∧Memo (ogF F og) W kb eb mb∧Cl (ogF F og) W (.slice 68 NdY) n'.row [.slice sN n'.row.length cN]∧
     W.cell? ⟨eb,0,none⟩=some (Value.func (Fn.func 83) #[] #[Value.pointer (some {block:=kb,off:=0}),Value.pointer (some {block:=eb,off:=0})]):=fun W hW=>by
     have SW:Step (ogF F og) (ogF F og) wr W:=zbq (k4.trans hW fun _ h=>h.elim) fun _ h=>h.elim
     have hmW:=hmr4.kept hW;exact ⟨(hg.step S0).step SW,fun b hb=>Nat.lt_of_lt_of_le (hFr b hb) (Nat.le_trans k4.size hW.size),hmW,hcN.step (zbq hW fun _ h=>h.elim),by rw [cell_of_block hmW.self];rfl⟩
    by_cases hw:mv.2=1
    case' pos=>
     have hne:(if nm=(⟨#[]⟩:ByteArray) then [] else [nm])=[nm]:=by rw [hw] at hnm;exact if_neg (of_decide_eq_false (hnm.trans rfl))
     rw [hw] at hc4;have hc5:(w4.alloc (Obj.cells #[Value.slice none 0 0,Value.int IntKind.i64 1] 33)).cell? ⟨wr.heap.size,1,none⟩=some (.int .i64 1):=zds (zcz w4 _) id hc4;have kB:Kept (fun _=>False) w4 ((w4.alloc (Obj.cells #[Value.slice (some {block:=w4.heap.size+1,off:=0}) 1 1,Value.int IntKind.i64 1] 33)).alloc (Obj.cells #[Value.string nm] 9)):=(zcz w4 _).trans (zcz _ _) fun _ h=>h.elim
     have cB0:=zds (zcz (w4.alloc (Obj.cells #[Value.slice (some {block:=w4.heap.size+1,off:=0}) 1 1,Value.int IntKind.i64 1] 33)) (Obj.cells #[Value.string nm] 9)) id (zpu w4 #[Value.slice (some {block:=w4.heap.size+1,off:=0}) 1 1,Value.int IntKind.i64 1] 33 0 _ rfl);have cB1:=zds (zcz (w4.alloc (Obj.cells #[Value.slice (some {block:=w4.heap.size+1,off:=0}) 1 1,Value.int IntKind.i64 1] 33)) (Obj.cells #[Value.string nm] 9)) id (zpu w4 #[Value.slice (some {block:=w4.heap.size+1,off:=0}) 1 1,Value.int IntKind.i64 1] 33 1 _ rfl);obtain ⟨gB1,gB2,gB3,gB4,gB5⟩:=hgB _ kB;have clB:Cl (ogF F og) ((w4.alloc (Obj.cells #[Value.slice (some {block:=w4.heap.size+1,off:=0}) 1 1,Value.int IntKind.i64 1] 33)).alloc (Obj.cells #[Value.string nm] 9)) StY (if nm=(⟨#[]⟩:ByteArray) then [] else [nm]) [Value.slice (some {block:=w4.heap.size+1,off:=0}) 1 1]:=by
      rw [hne,Cl];refine ⟨_,1,rfl,Nat.le_refl _,.inr ⟨_,rfl,fun hf=> ?_,fun i x hi=> ?_⟩⟩
      ·have:=hFr _ hf;have h2:=k4.size;simp only at this;omega
      ·cases i with
       |succ i=>simp at hi
       |zero=>
        have hi':some nm=some x:=hi;cases hi';refine ⟨[.string nm],by rw [Cl],fun j u hj=> ?_⟩
        match j,hj with
        |0,hj=>have:=zpu (w4.alloc (Obj.cells #[Value.slice (some {block:=w4.heap.size+1,off:=0}) 1 1,Value.int IntKind.i64 1] 33)) #[Value.string nm] 9 0 u hj;rw [World.size_alloc] at this;exact this
     go_wp2_with (refine (hIH n' hg' hcnt _ _ _ kb eb mb gB2 gB1 gB4 gB3).mono ?_;rintro e w5 ⟨sR,cR,rfl,hk5,hm5,hcR⟩)
    case' neg=>
     have hne:(if nm=(⟨#[]⟩:ByteArray) then [] else [nm])=[]:=by rw [decide_eq_false hw] at hnm;exact if_pos (of_decide_eq_true (hnm.trans rfl))
     have hc5:(w4.alloc (Obj.cells #[Value.slice none 0 0,Value.int IntKind.i64 1] 33)).cell? ⟨wr.heap.size,1,none⟩=some (.int .i64 mv.2):=zds (zcz w4 _) id hc4;have kB:Kept (fun _=>False) w4 (w4.alloc (Obj.cells #[Value.slice none 0 0,Value.int IntKind.i64 1] 33)):=zcz w4 _;have cB0:=zpu w4 #[Value.slice none 0 0,Value.int IntKind.i64 1] 33 0 _ rfl;have cB1:=zpu w4 #[Value.slice none 0 0,Value.int IntKind.i64 1] 33 1 _ rfl;obtain ⟨gB1,gB2,gB3,gB4,gB5⟩:=hgB _ kB;have clB:Cl (ogF F og) (w4.alloc (Obj.cells #[Value.slice none 0 0,Value.int IntKind.i64 1] 33)) StY (if nm=(⟨#[]⟩:ByteArray) then [] else [nm]) [Value.slice none 0 0]:=by rw [hne,Cl];exact ⟨none,0,rfl,Nat.le_refl _,.inl rfl⟩
     go_wp2_with (refine (hIH n' hg' hcnt _ _ _ kb eb mb gB2 gB1 gB4 gB3).mono ?_;rintro e w5 ⟨sR,cR,rfl,hk5,hm5,hcR⟩)
    all_goals
     clear hgB hix hc0 hc1 hcA1 hc4 gB1 gB2 gB4 gB5;obtain ⟨A,hA⟩:∃A,(if nm=(⟨#[]⟩:ByteArray) then [] else [nm])=A:=⟨_,rfl⟩;rw [hA] at clB hne;have hAl:A.length≤1:=by rw [hne];simp
     clear hne;have hmbr:=hmr.lt.2.2;have k4s:=k4.size;have k5:Kept (fun b=>b=mb) wr w5:=(zof (k4.trans kB fun _ h=>h.elim)).trans hk5 fun x h=>.inl h
     have st5:Step (ogF F og) (ogF F og) wr w5:=zbq k5 fun b h=>.inl (h▸hm.mF)
     have cw1:w5.cell? ⟨w4.heap.size,1,none⟩=some (.int .i64 1):=zds hk5 (fun h=>by simp only at h;omega) cB1;obtain ⟨va,cw0,clA⟩:∃va,w5.cell? ⟨w4.heap.size,0,none⟩=some va∧Cl (ogF F og) w5 StY A [va]:=⟨_,zds hk5 (fun h=>by simp only at h;omega) cB0,clB.step (zbq hk5 fun b h=>.inl (h▸hm.mF))⟩;have hw45:w4.heap.size<w5.heap.size:=World.block_lt_of_cell? w5 _ cw1;have hogm:∀g,og=some g→g≠mb:=fun g h e=>by have h1:=(hog g h).1;have h2:=hm3.lt.2.2;omega
     have hown5:OwnO F w5 33 TcY (((enL n.row).take k).flatMap (qaz n.row)) u10 og:=qds hown st5 fun g h=>k5.block g (hog g h).2 (hogm g h)
     have hsh:∀x∈n'.tr,x.1.length≤6:=zcl hg'.2.2.2;have hlt8:=qzk hg' (by omega);have hall:=yef hn h8;obtain ⟨T,hT⟩:∃T,((enL n.row).take k).flatMap (qaz n.row)=T:=⟨_,rfl⟩;have hTl:(T++qaz n.row mv).length≤11000000:=by
      have e3:T++qaz n.row mv=((enL n.row).take (k+1)).flatMap (qaz n.row):=by rw [hdrop,List.flatMap_append,hT];simp
      rw [e3];refine Nat.le_trans ?_ hall;have e4:=congrArg (List.flatMap (qaz n.row)) (List.take_append_drop (k+1) (enL n.row));rw [List.flatMap_append] at e4;have e5:=congrArg List.length e4;rw [List.length_append] at e5;omega
     rw [hT] at hown5;clear cB0 cB1 clB kB gB3 hc5 hk5;obtain ⟨wo,hwo⟩:∃wo,wo=wr:=⟨_,rfl⟩;subst hwo;go_loopw [10,63] (fun v10 v63 wi=>∃(j:Nat) (og2:Option Nat),v63= .int .i64 (j:Int)∧j≤n'.tr.length∧OwnO F wi 33 TcY (T++zor nm (n'.tr.take j)) v10 og2∧(∀g,og2=some g→(og=some g∨w5.heap.size≤g)∧g<wi.heap.size)∧Kept (fun b=>og=some b) w5 wi) (fun _ v63 _=>n'.tr.length-(intOf v63).toNat)
     case atStart=>refine ⟨0,og,rfl,Nat.zero_le _,?_,fun g h=>⟨.inl h,Nat.lt_of_lt_of_le (hog g h).2 k5.size⟩,Kept.refl _ _⟩;rw [List.take_zero,show zor nm []=[] from rfl,List.append_nil];exact hown5
     case round=>
      obtain ⟨j,og2,rfl,hj,hown2,hog2,hki⟩:=hrel;have hk5s:=k5.size;have hkis:=hki.size;have hog2w:∀g,og2=some g→w3.heap.size≤g:=fun g h=>by
       rcases (hog2 g h).1 with h|h
       ·exact (hog g h).1
       ·have:=hkr.size;omega
      have S5:Step (ogF F og) (ogF F og2) w5 wr:=⟨fun b hb hl=>hki.block b hl fun h=>hb (.inr h),fun b hb=>by
       rcases hb with hb|hb
       ·exact .inl (.inl hb)
       ·exact ((hog2 b hb).1).imp .inr id⟩
      have hm5i:Memo (ogF F og2) wr kb eb mb:=hm5.step S5 (hki.block mb hm5.lt.2.2 fun h=>hogm mb h rfl) (.inl hm.mF);by_cases hjt:j<n'.tr.length
      ·obtain ⟨ab2,ao2,vt,hix2,hab2,hd0,hd1,hclt⟩:=xlf (hcR.step S5) hjt;have ca0:wr.cell? ⟨w4.heap.size,0,none⟩=some va:=zds hki (fun h=>by have:=(hog _ h).2;simp only at this;omega) cw0;have ca1:wr.cell? ⟨w4.heap.size,1,none⟩=some (.int .i64 1):=zds hki (fun h=>by have:=(hog _ h).2;simp only at this;omega) cw1;have clA2:Cl (ogF F og2) wr StY A [va]:=clA.step S5;obtain ⟨t,ht⟩:∃t,n'.tr[j]=t:=⟨_,rfl⟩;have htm:t∈n'.tr:=ht▸List.getElem_mem hjt;have htl:=hsh t htm;rw [ht] at hd1 hclt;obtain ⟨r,hr⟩:∃r:Tc,(A++t.1,t.2)=r:=⟨_,rfl⟩;have hTh:zjn (A,1) t=some r:=by rw [zne _ _ (show A.length+t.1.length≤1000000000 by omega),←hr];rfl
       have hgi:zfe E (ogF F og2) wr:=((hg.step S0).step st5).step S5;have hFi:∀b,ogF F og2 b→b<wr.heap.size:=fun b hb=>by
        rcases hb with hb|hb
        ·have:=hF3 b hb;have:=hkr.size;omega
        ·exact (hog2 b hb).2
       have hT1:(wr.alloc (Obj.cells #[vt,Value.int IntKind.i64 t.2] 33)).cell? ⟨w4.heap.size,0,none⟩=some va:=zds (zcz wr _) id ca0;have hT2:(wr.alloc (Obj.cells #[vt,Value.int IntKind.i64 t.2] 33)).cell? ⟨w4.heap.size,1,none⟩=some (.int .i64 1):=zds (zcz wr _) id ca1;have kT:=zcz wr (Obj.cells #[vt,Value.int IntKind.i64 t.2] 33);have sT:Step (ogF F og2) (ogF F og2) wr (wr.alloc (Obj.cells #[vt,Value.int IntKind.i64 t.2] 33)):=zbq kT fun _ h=>h.elim
       have hFT:∀b,ogF F og2 b→b<(wr.alloc (Obj.cells #[vt,Value.int IntKind.i64 t.2] 33)).heap.size:=fun b hb=>Nat.lt_of_lt_of_le (hFi b hb) kT.size
       have hcal:=yoy (p:=(A,1)) (q:=t) hTh hFT (hgi.step sT) (clA2.step sT) (hclt.step sT);obtain ⟨s',c',rfl⟩:=zen hclt;go_wp2_with (go_at_fn 85);refine hcal.mono ?_;rintro e w7 ⟨s7,c7,rfl,hk7,hc7⟩;have k8:=zcz w7 (Obj.cells #[Value.slice s7 r.1.length c7,Value.int IntKind.i64 r.2] 33);have kt7:Kept (fun _=>False) wr w7:=kT.trans hk7 fun _ h=>h.elim
       have kt8:=kt7.trans k8 fun _ h=>h.elim
       have st8:=zbq (F:=ogF F og2) kt8 fun _ h=>h.elim
       have hF7:∀b,ogF F og2 b→b<w7.heap.size:=fun b hb=>Nat.lt_of_lt_of_le (hFi b hb) kt7.size
       have hkrs:=hkr.size;have hkt8:=kt8.size;have hF8:∀b,F b→b<(w7.alloc (Obj.cells #[Value.slice s7 r.1.length c7,Value.int IntKind.i64 r.2] 33)).heap.size∧og2≠some b:=fun b hb=>by have h1:=hF3 b hb;exact ⟨by omega,fun h=>by have:=hog2w b h;omega⟩
       have hog8:∀g,og2=some g→g<(w7.alloc (Obj.cells #[Value.slice s7 r.1.length c7,Value.int IntKind.i64 r.2] 33)).heap.size:=fun g h=>Nat.lt_of_lt_of_le (hog2 g h).2 hkt8
       have hown8:=qds hown2 st8 fun g h=>kt8.block g (hog2 g h).2 id
       have hcl8:=xfa (z:=r.2) hF7 hc7;have hlen8:(T++zor nm (n'.tr.take j)).length≤11000000:=by
        rw [hst,List.length_append] at hTl;rw [List.length_append];have e6:(zor nm (n'.tr.take j)).length≤(zor nm n'.tr).length:=by unfold zor;rw [List.length_map,List.length_map,List.length_take];omega
        omega
       have hroom8:zai ((T++zor nm (n'.tr.take j)).length+1) 32=true:=room (by omega);have hstep:T++zor nm (n'.tr.take j)++[r]=T++zor nm (n'.tr.take (j+1)):=by
        rw [List.append_assoc,←hr]
        congr 1
        unfold zor;rw [List.take_add_one,List.getElem?_eq_getElem hjt,ht,List.map_append,hA];rfl
       go_wp2_with (at_builtin;refine qwx rfl _ _ 43 rfl (u:=TcY) (F:=F) (xs:=T++zor nm (n'.tr.take j)) (ys:=[r]) (og:=og2) rfl rfl rfl rfl rfl rfl hF8 hog8 (hgi.step st8) hown8 hcl8 hroom8 ?_;intro v' w9 og' hown9 hk9 hfr hl9);go_wp2;rw [hstep] at hown9;refine ⟨⟨j+1,og',by go_num,by omega,hown9,fun g h=>⟨?_,hl9 g h⟩,(hki.trans (zof (G:=fun b=>og=some b) kt8) fun x h=>.inl h).trans hk9 fun x h=>(hog2 x h).1⟩,by simp [intOf];omega⟩;rcases hfr g h with h|h
       ·exact (hog2 g h).1
       ·exact .inr (by omega)
      ·go_wp2;have hje:j=n'.tr.length:=by omega
       subst hje;rw [List.take_length,←hst] at hown2;refine ⟨⟨k+1,og2,by go_num,by omega,?_,fun g h=>⟨hog2w g h,(hog2 g h).2⟩,hm5i,(hkr.trans k5 fun x h=>.inl h).trans hki fun x h=>.inr (hog x h).1⟩,by simp [intOf];omega⟩;rw [hdrop,List.flatMap_append,hT,List.flatMap_cons,List.flatMap_nil,List.append_nil];exact hown2
   ·have hke:k=(enL n.row).length:=by omega
    subst hke;rw [List.take_length] at hown;obtain ⟨T,hT⟩:∃T,(enL n.row).flatMap (qaz n.row)=T:=⟨_,rfl⟩;have hall:=yef hn h8;have hsa:=ymw hn ho;have hTm:∀x∈T,x∈n.tr:=fun x hx=>(qzt hn.set hn.2.2.1 hn.2.2.2 ho x).1 (hT▸hx)
    rw [hT] at hown hall hsa;have hTs:zwz T:=fewT.short fun x hx=>Nat.le_trans (zcl hn.2.2.2 x (hTm x hx)) (by decide)
    have hSet:zfn T=some n.tr:=by rw [zgb T (by omega) hTs,hsa]
    have hkd:Kept (fun b=>b=mb) w wr.drew:=((zof hk03).trans hkr fun x h=>.inl h).drew;have hmd:Memo (ogF F og) wr.drew kb eb mb:=hmr.kept (Kept.refl _ wr).drew;have hogw:∀g,og=some g→¬F g:=fun g h hf=>by have h1:=hF3 g hf;have h2:=(hog g h).1;omega
    have hcd:Cl F wr.drew (.slice 33 TcY) T [u10]:=xez (qds hown (zbq (Kept.refl (fun _=>False) wr).drew fun _ h=>h.elim) fun g h=>rfl) hogw;have hsd:Step F F w wr.drew:=zbq hkd fun b h=>h▸hm.mF
    have hFd:∀b,F b→b<wr.drew.heap.size:=fun b hb=>Nat.lt_of_lt_of_le (hF b hb) hkd.size
    have hmF:Memo F wr.drew kb eb mb:=hmd.step ⟨fun _ _ _=>rfl,fun b hb=>.inl (.inl hb)⟩ rfl hm.mF;have hcld:wr.drew.cell? ⟨kb,0,none⟩=some (.map (some mb)):=by rw [cell_of_block hmF.known];rfl
    have hnk:kb≠mb:=fun e=>hm.kF (e▸hm.mF)
    have hcal:∀W,W=wr.drew→Calls Tryz.prog 48 #[u10] W fun e w7=>∃s7 c7 es' clk',e= .returned (.slice s7 n.tr.length c7)∧w7.cell? ⟨kb,0,none⟩=some (.map (some mb))∧
     (Instr.mapUpdate 111 (.map (some mb)) (.string (keyB n.row)) (.slice s7 n.tr.length c7)).run Tryz.prog w7= .ok () (putO w7 mb (.map es' clk'))∧
     Kept (fun b=>b=mb) w (putO w7 mb (.map es' clk'))∧Memo F (putO w7 mb (.map es' clk')) kb eb mb∧(putO w7 mb (.map es' clk')).heap[mb]? =some (.map es' clk')∧qhi es'∧∃x∈es'.toList,x.key= .string (keyB n.row):=by
     rintro W rfl;refine (yev hSet hFd (hg.step hsd) hcd).mono ?_;rintro e w7 ⟨s7,c7,rfl,hk7,hc7⟩;have hm7:=hmF.kept hk7;obtain ⟨es7,clk7,hes7,hent7⟩:=hm7.map;have hkeys7:qhi es7:=fun x hx=>by obtain ⟨m,_,e,_⟩:=hent7 x hx;exact ⟨_,e⟩
     obtain ⟨es',clk',hup,hnew,hfound⟩:=ykq (k:=keyB n.row) (.slice s7 n.tr.length c7) Tryz.underlying111 Tryz.underlying9 hes7 hkeys7;have hpat:=xhg w7 (.map es' clk') hm7.lt.2.2;have hps:=yul (F:=F) (w:=w7) (.map es' clk') hm.mF;refine ⟨s7,c7,es',clk',rfl,by rw [cell_of_block hm7.known];rfl,hup,(hkd.trans hk7 fun _ h=>h.elim).trans (yum _ _ _) fun x h=>.inl h,⟨?_,?_,⟨es',clk',hpat,fun x hx=> ?_⟩,hm.kF,hm.eF,hm.mF⟩,hpat,fun x hx=> ?_,hfound⟩
     ·exact (hps.keep kb hm.kF hm7.lt.1).trans hm7.known
     ·exact (hps.keep eb hm.eF hm7.lt.2.1).trans hm7.self
     ·rcases hnew x hx with h|⟨h1,h2⟩
      ·obtain ⟨m,g1,g2,g3⟩:=hent7 x h;exact ⟨m,g1,g2,g3.step hps⟩
      ·exact ⟨n,hn,h1,by rw [h2];exact hc7.step hps⟩
     ·rcases hnew x hx with h|⟨h1,h2⟩
      ·exact hkeys7 x h
      ·exact ⟨_,h1⟩
    go_wp2;go_region_with (go_at_call 48;refine (hcal _ rfl).mono ?_;rintro e w7 ⟨s7,c7,es',clk',rfl,hcl7,hup,hkp,hmp,hpat,hkeys,hfound⟩)
    all_goals
     have hclp:(putO w7 mb (.map es' clk')).cell? ⟨kb,0,none⟩=some (.map (some mb)):=by rw [cell_of_block hmp.known];rfl
     rcases qst (k:=keyB n.row) Tryz.underlying111 Tryz.underlying9 hpat hkeys with ⟨x',hx',hxk',_,hl2⟩|⟨hno',_⟩
     ·clear hup hcl7 hcld hcal;obtain ⟨es2,clk2,h2,hent2⟩:=hmp.map;rw [hpat] at h2;cases h2;obtain ⟨m,g1,g2,g3⟩:=hent2 x' hx';have e:m=n:=ynv g1.1 hn.1 (by rw [g2] at hxk';exact Value.string.inj hxk');subst e;obtain ⟨s',c',hv'⟩:=zen g3;go_wp2;go_ret;exact ⟨s',c',rfl,hkp,hmp,by rw [←hv'];exact g3⟩
     ·obtain ⟨x',hx',hk'⟩:=hfound;exact absurd hk' (hno' x' hx')
end Go.Proofs.YtjolkdjkhekbnaaGreatDoor.Sv
