/- What a move does, by the place where it is done; StepRefuses: what it tells. -/
import Derived.Test.YtjolkdjkhekbnaaGreatDoorR11
import Derived.Test.YtjolkdjkhekbnaaGreatDoorW01
import Derived.Test.YtjolkdjkhekbnaaGreatDoorM17
import Derived.Test.YtjolkdjkhekbnaaGreatDoorM12
namespace Go.Proofs.YtjolkdjkhekbnaaGreatDoor.Sv
open Go Go.Sv Go.Rd
theorem qsx [Dfr] (c:Cx) (u:Tm):∃B,(c.fill u).row.drop c.pos=u.row++B:=by
 obtain ⟨A,B,h1,h2⟩:=Cx.zhw c
 exact ⟨B,by rw [h2,←h1,List.drop_left]⟩
theorem ylx [Dfr] (c:Cx) (u x:Tm):putR (c.fill u).row (c.pos:Int) x.row=(c.fill x).row:=by
 obtain ⟨A,B,h1,h2⟩:=Cx.zhw c
 have hd:(c.fill u).row.drop c.pos=u.row++B:=by rw [h2,←h1,List.drop_left]
 have hsz:sz ((c.fill u).row.drop c.pos)=u.size:=by
  unfold sz
  rw [hd,show u.row=u.t.row from rfl,qio (Tm.t_ok u)];rfl
 have hpos:0<u.size:=T.zpv u.t
 have hlen:(c.fill u).row.length=A.length+(u.size+B.length):=by rw [h2,List.length_append,List.length_append,Tm.zab]
 unfold putR
 rw [if_pos ⟨by omega,by omega,by rw [Int.toNat_natCast,hsz];exact hpos⟩,Int.toNat_natCast,hsz,←List.drop_drop,hd,←Tm.zab u,List.drop_left]
 rw [h2 u,h2 x,←h1,List.take_left,List.append_assoc]
theorem ygm [Dfr] (c:Cx) (u:Tm):(c.fill u).row.getD c.pos default=u.t.hd:=by
 obtain ⟨B,hd⟩:=qsx c u
 have h3:(c.fill u).row[c.pos]? =some u.t.hd:=by
  rw [←List.head?_drop,hd]
  show (u.t.row++B).head? =_
  cases u.t<;>rfl
 rw [List.getD_eq_getElem?_getD,h3];rfl
theorem yvm [Dfr] {n:Tm} {m:Mv} (h:m∈enL n.row):∃(c:Cx) (u:Tm),n=c.fill u∧u.Wt∧m.1=(c.pos:Int)∧m∈zit u.t.hd.1 (c.pos:Int) (qaz n.t c.pos):=by
 obtain ⟨hs,t,k,ht,hm1,hk,hkw,hw,hin⟩:=ysv h
 have e:t=n.t:=by
  have:=znu (Tm.t_ok n)
  rw [show n.t.row=n.row from rfl,ht] at this
  exact Option.some.inj this
 subst e
 obtain ⟨c,u,h1,h2,h3⟩:=Cx.qci n 0 k hkw
 rw [Nat.zero_add] at h3
 subst h3
 refine ⟨c,u,h1,h2,hm1,?_⟩
 have:=ygm c u
 rw [←h1] at this
 rw [←this];exact hin
theorem yvn [Dfr] {c:Cx} {u:Tm} (hs:setL (c.fill u).row) (hu:u.Wt) {m:Mv} (h:m∈zit u.t.hd.1 (c.pos:Int) (qaz (c.fill u).t c.pos)):m∈enL (c.fill u).row:=by
 rw [qhq (show tree (c.fill u).row=some (c.fill u).t from znu (Tm.t_ok _)) hs]
 unfold mvsT
 have hw:=Cx.qbn hu c 0
 rw [Nat.zero_add] at hw
 refine List.mem_flatMap.2 ⟨c.pos,hw,?_⟩
 rw [ygm];exact h
theorem ysp [Dfr] {u:Tm} (hu:u.Wt) {how:Int} {r:List Nd} {k:Int} {f:Bool} (hin:(k,how)∈zit u.t.hd.1 k f):znq (u.row++r) how=(u.mdT how).row∧(u.po=true→(u.mdT how).po=true)∧(u.qo=true→(u.mdT how).qo=true)∧(u.fine→(u.mdT how).fine)∧(u.mdT how).size≤u.size:=by
 have hk:zgf (u.row++r)=u.t.kids.map T.row:=by unfold zgf;rw [show u.row=u.t.row from rfl,qio (Tm.t_ok u)]
 rcases hu with ⟨s,rfl⟩|⟨a,b,rfl⟩|rfl|⟨a,b,rfl⟩
 ·have h1:how=1:=by simpa [zit,Tm.t,T.hd] using hin
  subst h1
  exact ⟨rfl,fun _=>rfl,fun h=>by simp [Tm.qo] at h,fun _=>by show zlw 1=true;decide,Nat.le_refl _⟩
 ·have h1:how=2∨how=3:=by simpa [zit,Tm.t,T.hd] using hin
  rcases h1 with rfl|rfl
  ·refine ⟨?_,fun h=> ?_,fun h=> ?_,fun h=>h.1,by show a.size≤_;rw [Tm.zyd];omega⟩
   ·unfold znq;rw [if_pos rfl,hk];rfl
   ·simp only [Tm.po,Bool.and_eq_true] at h;exact Tm.zga h.1
   ·simp only [Tm.qo,Bool.and_eq_true] at h;exact Tm.zrn h.1
  ·refine ⟨?_,fun h=> ?_,fun h=> ?_,fun h=>h.2,by show b.size≤_;rw [Tm.zyd];omega⟩
   ·unfold znq;rw [if_neg (by decide),if_pos rfl,hk];rfl
   ·simp only [Tm.po,Bool.and_eq_true] at h;exact Tm.zga h.2
   ·simp only [Tm.qo,Bool.and_eq_true] at h;exact Tm.zrn h.2
 ·have h1:how=4∨how=5:=by
   cases f<;>simp [zit,Tm.t,T.hd] at hin<;>omega
  rcases h1 with rfl|rfl
  ·exact ⟨rfl,fun _=>rfl,fun h=>by simp [Tm.qo] at h,fun _=>by show zlw 1=true;decide,Nat.le_refl _⟩
  ·exact ⟨rfl,fun _=>rfl,fun h=>by simp [Tm.qo] at h,fun _=>by show zlw 3=true;decide,Nat.le_refl _⟩
 ·have h1:how=4∨how=5:=by
   cases f<;>simp [zit,Tm.t,T.hd] at hin<;>omega
  rcases h1 with rfl|rfl
  ·refine ⟨?_,fun h=>by simp [Tm.po] at h,fun h=> ?_,fun h=>h,Nat.le_refl _⟩
   ·unfold znq
    rw [if_neg (by decide),if_neg (by decide),if_neg (by decide),if_pos (show (ix ((Tm.pair a b).row++r) 0).1=10 from rfl),hk]
    show _::(a.t.row++(b.t.row++[]))=_
    rw [List.append_nil];rfl
   ·show (Tm.going a b).qo=true
    simp only [Tm.qo,Bool.and_eq_true] at h ⊢;exact ⟨Tm.zga h.1,h.2⟩
  ·refine ⟨rfl,fun h=>by simp [Tm.po] at h,fun _=>rfl,fun _=>⟨by show zlw 3=true;decide,trivial⟩,?_⟩
   have h1:0<a.size:=by rw [←Tm.zab];exact List.length_pos_iff.2 (Tm.qkq a)
   have h2:(Tm.fin 3 .skip).size=2:=rfl
   have h3:(Tm.pair a b).size=a.size+b.size+1:=rfl
   show (Tm.fin 3 .skip).size≤_
   omega
theorem qnh [Dfr] {n:Tm} (h:setL n.row):n.fine∧n.size≤200∧(n.po=true∨n.qo=true)∧n.st=n:=by
 obtain ⟨m,hm,hf,hz,ho,hst,_⟩:=qng h
 have:=Tm.qao hm
 subst this
 exact ⟨hf,hz,ho,hst⟩
theorem qvc [Dfr] {c:Cx} {u:Tm} {how:Int} (hs:setL (c.fill u).row) (hu:u.Wt) (hin:((c.pos:Int),how)∈zit u.t.hd.1 (c.pos:Int) (qaz (c.fill u).t c.pos)) :
 zds (c.fill u).row ((c.pos:Int),how)=((c.fill (u.mdT how)).st.row,u.t.hd.2.1,0)∧(c.fill (u.mdT how)).fine∧(c.fill (u.mdT how)).size≤(c.fill u).size∧(((c.fill u).po=true→(c.fill (u.mdT how)).po=true)∧((c.fill u).qo=true→(c.fill (u.mdT how)).qo=true)):=by
 obtain ⟨hf,hz,ho,hst⟩:=qnh hs
 obtain ⟨B,hd⟩:=qsx c u
 obtain ⟨x1,x2,x3,x4,x5⟩:=ysp (r:=B) hu hin
 have hk:=Cx.zla x2 x3 c
 have hf2:=(Cx.zcn c (x:=u.mdT how) hf).1 (x4 (Cx.zcn c (x:=u) hf).2)
 have hsz:=Cx.ygt c (u.mdT how) u
 have hset:=zmw hf2 (by omega) (ho.imp hk.1 hk.2)
 refine ⟨?_,hf2,by omega,hk⟩
 unfold zds
 rw [if_pos (yvn hs hu hin)]
 show (zbw (putR _ (c.pos:Int) (znq ((c.fill u).row.drop (c.pos:Int).toNat) how)),(ix ((c.fill u).row.drop (c.pos:Int).toNat) 0).2.1,(0:Int))=_
 rw [Int.toNat_natCast,hd,x1,ylx,hset]
 have:ix (u.row++B) 0=u.t.hd:=by
  show ix (u.t.row++B) 0=_
  cases u.t<;>rfl
 rw [this]
theorem qlt [Dfr]:∀m:Tm,m.t.bang=m.bang
 | .act s| .skip| .throw| .yield=>rfl
 | .over s=>rfl
 | .fin s a=>rfl
 | .alt a b| .hand a b| .pair a b=>rfl
 | .block a=>rfl
 | .seq a b=>qlt a
 | .going a b=>qlt a
 | .stack a b=>qlt a
 | .par a b=>by
   show (a.t.bang||b.t.bang)=(a.bang||b.bang)
   rw [qlt a,qlt b]
theorem yqh [Dfr] {b:Tm} (hf:b.fine) (hz:b.size≤200) (ho:b.po=true∨b.qo=true) (hs:b.st=b):dmL b.row=b.bang:=by
 unfold dmL
 rw [@decide_eq_true _ (Classical.propDecidable _) (zxv hf hz ho hs),show tree b.row=some b.t from znu (Tm.t_ok b)]
 exact qlt b
theorem zyu [Dfr] {a b:Bool}:((a&&b)=true)→a=true∧b=true:=by
 cases a<;>cases b<;>simp
theorem qco [Dfr] (u:Tm):∀(c:Cx) (F:Bool),(c.fill u).fine→(c.fill u).size≤200→((c.fill u).po=true∨(c.fill u).qo=true)→(c.fill u).st=c.fill u→c.fr F=(if c.bsd.2=true then c.bsd.1.any dmL else (c.bsd.1.any dmL||F))
 | .hole,F,hf,hz,ho,hs=>rfl
 | .seq c b,F,hf,hz,ho,hs=>by
   have e:(Tm.seq (c.fill u) b).size=(c.fill u).size+b.size+1:=rfl
   exact qco u c F hf.1 (by have:(Tm.seq (c.fill u) b).size≤200:=hz;omega) (ho.imp (fun h=>(zyu h).1) (fun h=>(zyu h).1)) (Tm.qfr hs).1
 | .hand c b,F,hf,hz,ho,hs=>by
   have e:(Tm.hand (c.fill u) b).size=(c.fill u).size+b.size+1:=rfl
   exact qco u c F hf.1 (by have:(Tm.hand (c.fill u) b).size≤200:=hz;omega) (ho.elim (fun h=>.inl (zyu h).1) (fun h=>nomatch h)) (Tm.qbw hs).1
 | .going c b,F,hf,hz,ho,hs=>by
   have e:(Tm.going (c.fill u) b).size=(c.fill u).size+b.size+1:=rfl
   exact qco u c F hf.1 (by have:(Tm.going (c.fill u) b).size≤200:=hz;omega) (ho.elim (fun h=>nomatch h) (fun h=>.inl (zyu h).1)) (Tm.zyi hs).1
 | .stack c b,F,hf,hz,ho,hs=>by
   have e:(Tm.stack (c.fill u) b).size=(c.fill u).size+b.size+1:=rfl
   exact qco u c F hf.1 (by have:(Tm.stack (c.fill u) b).size≤200:=hz;omega) (ho.elim (fun h=>nomatch h) (fun h=>.inr (zyu h).1)) (Tm.zyh hs).1
 | .block c,F,hf,hz,ho,hs=>by
   have e:(Tm.block (c.fill u)).size=(c.fill u).size+1:=rfl
   have ih:=qco u c false hf (by have:(Tm.block (c.fill u)).size≤200:=hz;omega) (ho.elim (fun h=>.inr h) (fun h=>nomatch h)) (Tm.zyj hs).1
   show c.fr false=(if true=true then c.bsd.1.any dmL else _)
   rw [ih,if_pos rfl,Bool.or_false,ite_self]
 | .parL c b,F,hf,hz,ho,hs=>by
   have e:(Tm.par (c.fill u) b).size=(c.fill u).size+b.size+1:=rfl
   have hz':(Tm.par (c.fill u) b).size≤200:=hz
   obtain ⟨h1,h2,_⟩:=Tm.zwk hs
   have ho':((c.fill u).po=true∧b.po=true)∨((c.fill u).qo=true∧b.qo=true):=ho.imp zyu zyu
   have ih:=qco u c (F||b.bang) hf.1 (by omega) (ho'.imp (·.1) (·.1)) h1
   have hd:=yqh hf.2 (by omega) (ho'.imp (·.2) (·.2)) h2
   show c.fr (F||b.bang)=_
   rw [ih]
   by_cases hb:c.bsd.2=true
   ·have e:(Cx.parL c b).bsd=(c.bsd.1,true):=by simp only [Cx.bsd,if_pos hb]
    rw [e,if_pos hb,if_pos rfl]
   ·have e:(Cx.parL c b).bsd=(c.bsd.1++[b.row],false):=by simp only [Cx.bsd,if_neg hb]
    rw [e,if_neg hb,if_neg (by simp),List.any_append,←hd]
    simp only [List.any_cons,List.any_nil,Bool.or_false]
    cases c.bsd.1.any dmL<;>cases F<;>cases dmL b.row<;>rfl
 | .parR a c,F,hf,hz,ho,hs=>by
   have e:(Tm.par a (c.fill u)).size=a.size+(c.fill u).size+1:=rfl
   have hz':(Tm.par a (c.fill u)).size≤200:=hz
   obtain ⟨h1,h2,_⟩:=Tm.zwk hs
   have ho':(a.po=true∧(c.fill u).po=true)∨(a.qo=true∧(c.fill u).qo=true):=ho.imp zyu zyu
   have ih:=qco u c (F||a.bang) hf.2 (by omega) (ho'.imp (·.2) (·.2)) h2
   have hd:=yqh hf.1 (by omega) (ho'.imp (·.1) (·.1)) h1
   show c.fr (F||a.bang)=_
   rw [ih]
   by_cases hb:c.bsd.2=true
   ·have e:(Cx.parR a c).bsd=(c.bsd.1,true):=by simp only [Cx.bsd,if_pos hb]
    rw [e,if_pos hb,if_pos rfl]
   ·have e:(Cx.parR a c).bsd=(c.bsd.1++[a.row],false):=by simp only [Cx.bsd,if_neg hb]
    rw [e,if_neg hb,if_neg (by simp),List.any_append,←hd]
    simp only [List.any_cons,List.any_nil,Bool.or_false]
    cases c.bsd.1.any dmL<;>cases F<;>cases dmL a.row<;>rfl
theorem qom [Dfr] {c:Cx} {u:Tm} (hs:setL (c.fill u).row):qaz (c.fill u).t c.pos=c.fr true:=by
 obtain ⟨hf,hz,ho,hst⟩:=qnh hs
 have:=Cx.zoj u c 0
 rw [Nat.zero_add] at this
 rw [qco u c true hf hz ho hst]
 unfold qaz
 rw [this]
 cases c.bsd.2<;>simp
theorem qmc [Dfr] {u:Tm} (hu:u.Wt) {how k:Int} {f:Bool}:(k,how)∈zit u.t.hd.1 k f↔u.wayT how f:=by
 rcases hu with ⟨s,rfl⟩|⟨a,b,rfl⟩|rfl|⟨a,b,rfl⟩
 ·simp [zit,Tm.t,T.hd,Tm.wayT]
 ·simp [zit,Tm.t,T.hd,Tm.wayT]
 ·cases f<;>simp [zit,Tm.t,T.hd,Tm.wayT]
 ·cases f<;>simp [zit,Tm.t,T.hd,Tm.wayT]
theorem yfl [Dfr] {u:Tm} (hu:u.Wt) (hf:u.fine):(if u.t.hd.2.1=(⟨#[]⟩:ByteArray) then [] else [u.t.hd.2.1])=u.nmL:=by
 rcases hu with ⟨s,rfl⟩|⟨a,b,rfl⟩|rfl|⟨a,b,rfl⟩
 ·have h:qjn s=true:=hf
  show (if s=_ then [] else [s])=[s]
  rw [if_neg]
  rintro rfl
  revert h;decide
 ·exact if_pos rfl
 ·exact if_pos rfl
 ·exact if_pos rfl
def w1 (n:Nd):Nat:=if n.1=1 then 1 else 0
theorem ymr [Dfr]:Tm.Light w1:=⟨rfl,fun _=>rfl,fun _=>rfl,rfl,rfl⟩
theorem ysm [Dfr] (m:Tm):m.nm.length=m.wt w1:=by
 rw [Tm.zjv]
 show _=(m.row.map w1).sum
 generalize m.row=l
 induction l with
 |nil=>rfl
 |cons n l ih =>
  rw [List.map_cons,List.sum_cons,←ih]
  by_cases h:n.1=1
  ·rw [List.countP_cons_of_pos (by simp [h])]
   unfold w1;rw [if_pos h];omega
  ·rw [List.countP_cons_of_neg (by simp [h])]
   unfold w1;rw [if_neg h];omega
theorem ywl [Dfr] {u:Tm} (hu:u.Wt) (how:Int):(u.mdT how).nm.length≤u.nm.length:=by
 rcases hu with ⟨s,rfl⟩|⟨a,b,rfl⟩|rfl|⟨a,b,rfl⟩
 ·exact Nat.zero_le _
 ·show (if how=2 then a else b).nm.length≤(a.nm++b.nm).length
  rw [List.length_append]
  split<;>omega
 ·show (if how=5 then Tm.over 3 else Tm.over 1).nm.length≤0
  split<;>exact Nat.le_refl _
 ·show (if how=5 then Tm.fin 3 .skip else Tm.going a b).nm.length≤(a.nm++b.nm).length
  split
  ·exact Nat.zero_le _
  ·exact Nat.le_refl _
theorem yst [Dfr] (c:Cx) (x y:Tm):(c.fill x).nm.length+y.nm.length=(c.fill y).nm.length+x.nm.length:=by
 obtain ⟨A,B,h1,h2⟩:=Cx.zhw c
 simp only [ysm,Tm.wt,h2,List.map_append,List.sum_append]
 omega
theorem qas [Dfr] {c:Cx} {u:Tm} {how:Int} (hu:u.Wt) (h:(c.fill u).small) (hz:(c.fill (u.mdT how)).size≤(c.fill u).size):(c.fill (u.mdT how)).st.small:=by
 obtain ⟨h1,h2⟩:=h
 have e1:=Tm.zdk (c.fill (u.mdT how))
 have e2:=Tm.ytp w1 ymr (c.fill (u.mdT how))
 have e3:=yst c (u.mdT how) u
 have e4:=ywl hu how
 rw [←ysm,←ysm] at e2
 exact ⟨by omega,by omega⟩
def zjw (s:ByteArray) (L:List Tc):List Tc:=L.map fun x=>((if s=(⟨#[]⟩:ByteArray) then [] else [s])++x.1,x.2)
theorem yah [Dfr] {m:Tm} (hs:setL m.row) (hp:m.po=true) (hsm:m.small) {mv:Mv} (h:mv∈enL m.row):∃(c:Cx) (u:Tm),m=c.fill u∧u.Wt∧u.fine∧mv.1=(c.pos:Int)∧u.wayT mv.2 (c.fr true)∧
 zds m.row mv=((c.fill (u.mdT mv.2)).st.row,u.t.hd.2.1,0)∧qkv (c.fill (u.mdT mv.2)).st.row=((c.fill (u.mdT mv.2)).tr,0)∧(c.fill (u.mdT mv.2)).tr.length≤400000000∧(∀x∈(c.fill (u.mdT mv.2)).tr,x.1.length≤6)∧(c.fill (u.mdT mv.2)).st.size≤200:=by
 obtain ⟨c,u,rfl,hu,h1,h2⟩:=yvm h
 have hm:mv=((c.pos:Int),mv.2):=by rw [←h1]
 rw [hm] at h2
 obtain ⟨n1,n2,n3,n4,_⟩:=qvc hs hu h2
 obtain ⟨hf,hz,ho,hst⟩:=qnh hs
 have hpo:=n4 hp
 have hst2:=Tm.qzf hpo
 have hsm2:=qas (how:=mv.2) hu hsm n3
 have e1:=Tm.zdk (c.fill (u.mdT mv.2))
 have htr:=(Tm.qxo (c.fill (u.mdT mv.2))).1 hpo
 refine ⟨c,u,rfl,hu,(Cx.zcn c (x:=u) hf).2,h1,?_,?_,?_,?_,?_,by omega⟩
 ·rw [←qom hs];exact (qmc hu).1 h2
 ·rw [hm];exact n1
 ·rw [qap (Tm.qaj n2) (by omega) hst2 hsm2,htr]
 ·rw [←htr];exact (yuh hsm2).1
 ·rw [←htr];exact zny hsm2
noncomputable def zsm (l:List Nd) (mv:Mv):List Tc:=zjw (zds l mv).2.1 (qkv (zds l mv).1).1
theorem qmu [Dfr] {m:Tm} (hs:setL m.row) (hp:m.po=true) (hsm:m.small) (hov:m.zhh=false) (x:Tc):x∈(enL m.row).flatMap (zsm m.row)↔x∈m.tr:=by
 obtain ⟨hfi,hz,ho,hst⟩:=qnh hs
 rw [List.mem_flatMap]
 constructor
 ·rintro ⟨mv,hmv,hx⟩
  obtain ⟨c,u,rfl,hu,hf,e2,e3,e4,e5,e6,e7,e8⟩:=yah hs hp hsm hmv
  unfold zsm at hx
  rw [e4] at hx
  have hx:x∈zjw u.t.hd.2.1 (qkv (c.fill (u.mdT mv.2)).st.row).1:=hx
  rw [e5] at hx
  obtain ⟨y,hy,rfl⟩:=List.mem_map.1 hx
  rw [yfl hu hf]
  exact (Tm.sound e3 c).1 y hy
 ·intro hx
  obtain ⟨c,u,how,y,rfl,hu,hw,hy,rfl⟩:=(Tm.zog m hst hfi).1 hp hov true x hx (.inl rfl)
  have hmv:((c.pos:Int),how)∈enL (c.fill u).row:=yvn hs hu (by rw [qom hs];exact (qmc hu).2 hw)
  refine ⟨_,hmv,?_⟩
  have hin:((c.pos:Int),how)∈zit u.t.hd.1 (c.pos:Int) (qaz (c.fill u).t c.pos):=by rw [qom hs];exact (qmc hu).2 hw
  obtain ⟨n1,n2,n3,n4,_⟩:=qvc hs hu hin
  have hpo:=n4 hp
  have hsm2:=qas (how:=how) hu hsm n3
  have e1:=Tm.zdk (c.fill (u.mdT how))
  unfold zsm
  rw [n1]
  show _∈zjw u.t.hd.2.1 (qkv (c.fill (u.mdT how)).st.row).1
  rw [qap (Tm.qaj n2) (by omega) (Tm.qzf hpo) hsm2,(Tm.qxo _).1 hpo]
  refine List.mem_map.2 ⟨y,hy,?_⟩
  rw [yfl hu (Cx.zcn c (x:=u) hfi).2]
  rfl
end Go.Proofs.YtjolkdjkhekbnaaGreatDoor.Sv
