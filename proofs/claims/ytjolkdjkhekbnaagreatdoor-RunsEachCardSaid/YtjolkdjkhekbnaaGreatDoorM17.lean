/- What a move does to what is meant: nothing else may happen, and all of it may. Plain Lean, no program in sight. -/
import Derived.Test.YtjolkdjkhekbnaaGreatDoorM5
import Derived.Test.YtjolkdjkhekbnaaGreatDoorR11
namespace Go.Rd
open Go Go.Sv
namespace Cx
def fr:Cx→Bool→Bool
 |hole,F=>F
 |seq c _,F=>c.fr F
 |hand c _,F=>c.fr F
 |going c _,F=>c.fr F
 |stack c _,F=>c.fr F
 |parL c b,F=>c.fr (F||b.bang)
 |parR a c,F=>c.fr (F||a.bang)
 |block c,F=>c.fr false
end Cx
namespace Tm
def nmL:Tm→List ByteArray
 |act s=>[s]
 |_=>[]
def pf (u:Tm) (x:Tc):Tc:=(u.nmL++x.1,x.2)
def pfQ (u:Tm) (z:Qc):Qc:=(u.pf z.1,z.2)
def wayT:Tm→Int→Bool→Prop
 |act _,h,_=>h=1
 |alt _ _,h,_=>h=2∨h=3
 |yield,h,f=>h=4∨(h=5∧f=true)
 |pair _ _,h,f=>h=4∨(h=5∧f=true)
 |_,_,_=>False
theorem quz (u:Tm) (p q:Tc):zlc (u.pf p) q=u.pf (zlc p q):=by
 unfold zlc pf
 split
 ·rw [List.append_assoc]
 ·rfl
theorem yew (u:Tm) (p q:Tc):behT (u.pf p) q=u.pf (behT p q):=by
 unfold behT pf
 rw [List.append_assoc]
theorem yev (u:Tm) (p q:Tc):qhj (u.pf p) q=u.pf (qhj p q):=by
 unfold qhj
 rw [yew]
 show (if p.2=2 then _ else _)=_
 split<;>rfl
theorem yex (u:Tm) (p q:Qc):seqF (u.pfQ p) q=u.pfQ (seqF p q):=by
 unfold seqF pfQ
 show (if p.1.2=1 then _ else _)=_
 split
 ·rw [quz]
 ·rfl
theorem qsa {α:Type}:∀(l:List α) {p q r:List α},Mx p q r→Mx (l++p) q (l++r)
 |[],_,_,_,h=>h
 |a::l,_,_,_,h=>.l (qsa l h)
theorem yub {u:Tm} {how:Int} {f:Bool} (h:u.wayT how f):(∀x∈(u.mdT how).tr,u.pf x∈u.tr)∧(∀z∈(u.mdT how).pq,u.pfQ z∈u.pq):=by
 cases u with
 |act s=>exact ⟨fun x hx=>by rw [zaf.1 hx];exact zus.2 rfl,fun z hz=>by (cases hz)⟩
 |alt a b =>
  rcases h with rfl|rfl
  ·exact ⟨fun x hx=>zqd.2 (.inl hx),fun z hz=>zqe.2 (.inl hz)⟩
  ·exact ⟨fun x hx=>zqd.2 (.inr hx),fun z hz=>zqe.2 (.inr hz)⟩
 |yield =>
  rcases h with rfl|⟨rfl,_⟩
  ·exact ⟨fun x hx=>by rw [zaf.1 hx];exact zkw.2 (.inl rfl),fun z hz=>by (cases hz)⟩
  ·exact ⟨fun x hx=>by rw [zaf.1 hx];exact zkw.2 (.inr rfl),fun z hz=>by (cases hz)⟩
 |pair a b =>
  rcases h with rfl|⟨rfl,_⟩
  ·exact ⟨fun x hx=>by (cases hx),fun z hz=>znb.2 (.inl (zda.1 hz))⟩
  ·refine ⟨fun x hx=>by (cases hx),fun z hz=>znb.2 (.inr ?_)⟩
   obtain ⟨q,hq,rfl⟩:=zaq.1 (show z∈(fin 3 skip).pq from hz)
   rw [zke.1 hq];rfl
 |_=>exact absurd h id
theorem sound {u:Tm} {how:Int} {f:Bool} (h:u.wayT how f):∀c:Cx,(∀x∈(c.fill (u.mdT how)).tr,u.pf x∈(c.fill u).tr)∧(∀z∈(c.fill (u.mdT how)).pq,u.pfQ z∈(c.fill u).pq)
 | .hole=>yub h
 | .seq c b=>⟨fun x hx=>by
  obtain ⟨p,hp,q,hq,rfl⟩:=zec.1 hx
  exact zec.2 ⟨_,(sound h c).1 p hp,q,hq,(quz u p q).symm⟩,fun z hz=>by
  obtain ⟨p,hp,q,hq,rfl⟩:=zfs.1 hz
  exact zfs.2 ⟨_,(sound h c).2 p hp,q,hq,(yex u p q).symm⟩⟩
 | .hand c b=>⟨fun x hx=>by
  obtain ⟨p,hp,q,hq,rfl⟩:=zel.1 hx
  exact zel.2 ⟨_,(sound h c).1 p hp,q,hq,(yev u p q).symm⟩,fun z hz=>by (cases hz)⟩
 | .going c b=>⟨fun x hx=>by (cases hx),fun z hz=>by
  obtain ⟨p,hp,q,hq,rfl⟩:=zda.1 hz
  exact zda.2 ⟨_,(sound h c).1 p hp,q,hq,rfl⟩⟩
 | .stack c b=>⟨fun x hx=>by (cases hx),fun z hz=>by
  obtain ⟨p,hp,q,hq,rfl⟩:=zeg.1 hz
  exact zeg.2 ⟨_,(sound h c).2 p hp,q,hq,rfl⟩⟩
 | .parL c b=>⟨fun x hx=>by
  obtain ⟨p,hp,q,hq,h1,h2⟩:=zdi.1 hx
  exact zdi.2 ⟨_,(sound h c).1 p hp,q,hq,qsa _ h1,h2⟩,fun z hz=>by
  obtain ⟨p,hp,q,hq,⟨h1,h2⟩,h3⟩:=zed.1 hz
  exact zed.2 ⟨_,(sound h c).2 p hp,q,hq,⟨qsa _ h1,h2⟩,h3⟩⟩
 | .parR a c=>⟨fun x hx=>by
  obtain ⟨p,hp,q,hq,h1,h2⟩:=zdi.1 hx
  exact zdi.2 ⟨p,hp,_,(sound h c).1 q hq,(qsa _ h1.symm).symm,h2⟩,fun z hz=>by
  obtain ⟨p,hp,q,hq,⟨h1,h2⟩,h3⟩:=zed.1 hz
  exact zed.2 ⟨p,hp,_,(sound h c).2 q hq,⟨(qsa _ h1.symm).symm,h2⟩,h3⟩⟩
 | .block c=>⟨fun x hx=>by
  obtain ⟨z,hz,h1⟩:=zcf.1 hx
  refine zcf.2 ⟨_,(sound h c).2 z hz,?_⟩
  rcases h1 with ⟨h1,rfl⟩|⟨h1,rfl⟩
  ·exact .inl ⟨h1,rfl⟩
  ·exact .inr ⟨h1,(yew u z.1 z.2).symm⟩,fun z hz=>by (cases hz)⟩
def Stp (m:Tm) (F:Bool) (x:Tc):Prop:=∃(c:Cx) (u:Tm) (how:Int) (y:Tc),m=c.fill u∧u.Wt∧u.wayT how (c.fr F)∧y∈(c.fill (u.mdT how)).tr∧x=u.pf y
def StpQ (m:Tm) (F:Bool) (x:Qc):Prop:=∃(c:Cx) (u:Tm) (how:Int) (y:Qc),m=c.fill u∧u.Wt∧u.wayT how (c.fr F)∧y∈(c.fill (u.mdT how)).pq∧x=u.pfQ y
theorem zyx (u:Tm):u.nmL=[]∨∃s,u.nmL=[s]:=by
 cases u<;>first|exact .inl rfl|exact .inr ⟨_,rfl⟩
theorem qya {α:Type} {la pa lb qb r:List α} (hla:la=[]∨∃s,la=[s]) (hlb:lb=[]∨∃s,lb=[s]) (h:Mx (la++pa) (lb++qb) r):(∃r',Mx pa (lb++qb) r'∧r=la++r')∨(∃r',Mx (la++pa) qb r'∧r=lb++r'):=by
 rcases hla with rfl|⟨s,rfl⟩
 ·exact .inl ⟨r,h,rfl⟩
 ·rcases hlb with rfl|⟨s',rfl⟩
  ·exact .inr ⟨r,h,rfl⟩
  ·cases h with
   |l h=>exact .inl ⟨_,h,rfl⟩
   |r h=>exact .inr ⟨_,h,rfl⟩
theorem qxk {a b:Tm} {F:Bool} {p q x:Tc} (hq:q∈b.tr) (h:∃(c:Cx) (u:Tm) (how:Int) (y:Tc),a=c.fill u∧u.Wt∧u.wayT how (c.fr (F||b.bang))∧y∈(c.fill (u.mdT how)).tr∧p=u.pf y∧∃r',Mx y.1 q.1 r'∧x.1=u.nmL++r') (hx:x.2=bs p.2 q.2):Stp (par a b) F x:=by
 obtain ⟨c,u,how,y,rfl,h2,h3,h4,rfl,r',h5,h6⟩:=h
 exact ⟨.parL c b,u,how,(r',bs y.2 q.2),rfl,h2,h3,zdi.2 ⟨y,h4,q,hq,h5,rfl⟩,Prod.ext h6 hx⟩
theorem qxj {a b:Tm} {F:Bool} {p q x:Tc} (hp:p∈a.tr) (h:∃(c:Cx) (u:Tm) (how:Int) (y:Tc),b=c.fill u∧u.Wt∧u.wayT how (c.fr (F||a.bang))∧y∈(c.fill (u.mdT how)).tr∧q=u.pf y∧∃r',Mx p.1 y.1 r'∧x.1=u.nmL++r') (hx:x.2=bs p.2 q.2):Stp (par a b) F x:=by
 obtain ⟨c,u,how,y,rfl,h2,h3,h4,rfl,r',h5,h6⟩:=h
 exact ⟨.parR a c,u,how,(r',bs p.2 y.2),rfl,h2,h3,zdi.2 ⟨p,hp,y,h4,h5,rfl⟩,Prod.ext h6 hx⟩
theorem yjz {a b:Tm} {F:Bool} {p q x:Tc} (hq:q∈b.tr) (h:Stp a (F||b.bang) p) (hn:q.1=[]) (hm:Mx p.1 q.1 x.1) (hx:x.2=bs p.2 q.2):Stp (par a b) F x:=by
 obtain ⟨c,u,how,y,h1,h2,h3,h4,h5⟩:=h
 rw [hn] at hm
 have e:=hm.yfj
 refine qxk (p:=p) hq ⟨c,u,how,y,h1,h2,h3,h4,h5,y.1,by rw [hn];exact Mx.left _,by rw [e,h5];rfl⟩ hx
theorem yqw {a b:Tm} {F:Bool} {p q x:Tc} (hp:p∈a.tr) (h:Stp b (F||a.bang) q) (hn:p.1=[]) (hm:Mx p.1 q.1 x.1) (hx:x.2=bs p.2 q.2):Stp (par a b) F x:=by
 obtain ⟨c,u,how,y,h1,h2,h3,h4,h5⟩:=h
 rw [hn] at hm
 have e:=hm.qjl
 refine qxj (q:=q) hp ⟨c,u,how,y,h1,h2,h3,h4,h5,y.1,by rw [hn];exact Mx.right _,by rw [e,h5];rfl⟩ hx
theorem ytz {a b:Tm} {F:Bool} {p q x:Tc} (hp:p∈a.tr) (hq:q∈b.tr) (h:Stp a (F||b.bang) p) (k:Stp b (F||a.bang) q) (hm:Mx p.1 q.1 x.1) (hx:x.2=bs p.2 q.2):Stp (par a b) F x:=by
 obtain ⟨c,u,how,y,h1,h2,h3,h4,h5⟩:=h
 obtain ⟨c',u',how',y',k1,k2,k3,k4,k5⟩:=k
 have hm':Mx (u.nmL++y.1) (u'.nmL++y'.1) x.1:=by rw [h5,k5] at hm;exact hm
 rcases qya (zyx u) (zyx u') hm' with ⟨r',e1,e2⟩|⟨r',e1,e2⟩
 ·exact qxk (p:=p) hq ⟨c,u,how,y,h1,h2,h3,h4,h5,r',by rw [k5];exact e1,e2⟩ hx
 ·exact qxj (q:=q) hp ⟨c',u',how',y',k1,k2,k3,k4,k5,r',by rw [h5];exact e1,e2⟩ hx
theorem qpz {a b:Tm} {F:Bool} {p q x:Qc} (hq:q∈b.pq) (h:∃(c:Cx) (u:Tm) (how:Int) (y:Qc),a=c.fill u∧u.Wt∧u.wayT how (c.fr (F||b.bang))∧y∈(c.fill (u.mdT how)).pq∧p=u.pfQ y∧∃r',Mx y.1.1 q.1.1 r'∧x.1.1=u.nmL++r') (hx:x.1.2=bs p.1.2 q.1.2) (h2m:Mx p.2.1 q.2.1 x.2.1) (h2:x.2.2=bs p.2.2 q.2.2):StpQ (par a b) F x:=by
 obtain ⟨c,u,how,y,rfl,k2,k3,k4,rfl,r',k5,k6⟩:=h
 exact ⟨.parL c b,u,how,((r',bs y.1.2 q.1.2),x.2),rfl,k2,k3,zed.2 ⟨y,k4,q,hq,⟨k5,rfl⟩,h2m,h2⟩,Prod.ext (Prod.ext k6 hx) rfl⟩
theorem qpy {a b:Tm} {F:Bool} {p q x:Qc} (hp:p∈a.pq) (h:∃(c:Cx) (u:Tm) (how:Int) (y:Qc),b=c.fill u∧u.Wt∧u.wayT how (c.fr (F||a.bang))∧y∈(c.fill (u.mdT how)).pq∧q=u.pfQ y∧∃r',Mx p.1.1 y.1.1 r'∧x.1.1=u.nmL++r') (hx:x.1.2=bs p.1.2 q.1.2) (h2m:Mx p.2.1 q.2.1 x.2.1) (h2:x.2.2=bs p.2.2 q.2.2):StpQ (par a b) F x:=by
 obtain ⟨c,u,how,y,rfl,k2,k3,k4,rfl,r',k5,k6⟩:=h
 exact ⟨.parR a c,u,how,((r',bs p.1.2 y.1.2),x.2),rfl,k2,k3,zed.2 ⟨p,hp,y,k4,⟨k5,rfl⟩,h2m,h2⟩,Prod.ext (Prod.ext k6 hx) rfl⟩
theorem qxl {a b:Tm} {F:Bool} {p q x:Qc} (hq:q∈b.pq) (h:StpQ a (F||b.bang) p) (hn:q.1.1=[]) (hm:Mx p.1.1 q.1.1 x.1.1) (hx:x.1.2=bs p.1.2 q.1.2) (h2m:Mx p.2.1 q.2.1 x.2.1) (h2:x.2.2=bs p.2.2 q.2.2):StpQ (par a b) F x:=by
 obtain ⟨c,u,how,y,h1,k2,h3,h4,h5⟩:=h
 rw [hn] at hm
 have e:=hm.yfj
 exact qpz (p:=p) hq ⟨c,u,how,y,h1,k2,h3,h4,h5,y.1.1,by rw [hn];exact Mx.left _,by rw [e,h5];rfl⟩ hx h2m h2
theorem ycs {a b:Tm} {F:Bool} {p q x:Qc} (hp:p∈a.pq) (h:StpQ b (F||a.bang) q) (hn:p.1.1=[]) (hm:Mx p.1.1 q.1.1 x.1.1) (hx:x.1.2=bs p.1.2 q.1.2) (h2m:Mx p.2.1 q.2.1 x.2.1) (h2:x.2.2=bs p.2.2 q.2.2):StpQ (par a b) F x:=by
 obtain ⟨c,u,how,y,h1,k2,h3,h4,h5⟩:=h
 rw [hn] at hm
 have e:=hm.qjl
 exact qpy (q:=q) hp ⟨c,u,how,y,h1,k2,h3,h4,h5,y.1.1,by rw [hn];exact Mx.right _,by rw [e,h5];rfl⟩ hx h2m h2
theorem yqx {a b:Tm} {F:Bool} {p q x:Qc} (hp:p∈a.pq) (hq:q∈b.pq) (h:StpQ a (F||b.bang) p) (k:StpQ b (F||a.bang) q) (hm:Mx p.1.1 q.1.1 x.1.1) (hx:x.1.2=bs p.1.2 q.1.2) (h2m:Mx p.2.1 q.2.1 x.2.1) (h2:x.2.2=bs p.2.2 q.2.2):StpQ (par a b) F x:=by
 obtain ⟨c,u,how,y,h1,h2',h3,h4,h5⟩:=h
 obtain ⟨c',u',how',y',k1,k2,k3,k4,k5⟩:=k
 have hm':Mx (u.nmL++y.1.1) (u'.nmL++y'.1.1) x.1.1:=by rw [h5,k5] at hm;exact hm
 rcases qya (zyx u) (zyx u') hm' with ⟨r',e1,e2⟩|⟨r',e1,e2⟩
 ·exact qpz (p:=p) hq ⟨c,u,how,y,h1,h2',h3,h4,h5,r',by rw [k5];exact e1,e2⟩ hx h2m h2
 ·exact qpy (q:=q) hp ⟨c',u',how',y',k1,k2,k3,k4,k5,r',by rw [h5];exact e1,e2⟩ hx h2m h2
def Cnd (F:Bool) (x:Tc):Prop:=F=true∨x.2≠3∨x.1≠[]
theorem ywa {p q:Tc} (h:p.2=3):zlc p q=p:=by unfold zlc;rw [if_neg (by omega)]
theorem ynl {F:Bool} {p q:Tc} (h:Cnd F (zlc p q)):Cnd F p:=by
 by_cases h3:p.2=3
 ·rw [ywa h3] at h;exact h
 ·exact .inr (.inl h3)
theorem ynm {F:Bool} {p q:Tc} (h:Cnd F (qhj p q)):Cnd F p:=by
 by_cases h3:p.2=3
 ·unfold qhj at h;rw [if_neg (by omega)] at h;exact h
 ·exact .inr (.inl h3)
theorem ysz {F:Bool} {p q:Qc} (h:Cnd F (seqF p q).1):Cnd F p.1:=by
 by_cases h3:p.1.2=3
 ·unfold seqF at h;rw [if_neg (by omega)] at h;exact h
 ·exact .inr (.inl h3)
theorem qpb {F:Bool} {s:Int} {x q:Tc} (hs:zlw s=true) (h:Cnd F x) (hx:x.2=bs s q.2) (h1:x.1=q.1):Cnd (F||decide (s=2)) q:=by
 rcases h with h|h|h
 ·exact .inl (by rw [h];rfl)
 ·by_cases h2:s=2
  ·exact .inl (by rw [decide_eq_true h2,Bool.or_true])
  ·by_cases h3:q.2=3
   ·exfalso
    apply h
    rw [hx,h3]
    rcases zye.1 hs with rfl|rfl|rfl
    ·decide
    ·exact absurd rfl h2
    ·decide
   ·exact .inr (.inl h3)
 ·exact .inr (.inr (by rw [←h1];exact h))
theorem yhh {F:Bool} {p q x:Tc} (h:Cnd F x) (hx:x.2=bs p.2 q.2) (h1:x.1=[]):F=true∨p.2≠3∨q.2≠3:=by
 rcases h with h|h|h
 ·exact .inl h
 ·by_cases h3:p.2=3
  ·by_cases h4:q.2=3
   ·exfalso
    apply h
    rw [hx,h3,h4];decide
   ·exact .inr (.inr h4)
  ·exact .inr (.inl h3)
 ·exact absurd h1 h
theorem zog:∀m:Tm,m.settled→m.fine→(m.po=true→m.zhh=false→∀(F:Bool) (x:Tc),x∈m.tr→Cnd F x→Stp m F x)∧(m.qo=true→m.isFin=false→∀(F:Bool) (x:Qc),x∈m.pq→Cnd F x.1→StpQ m F x)
 |act s,hs,hf=>⟨fun _ _ F x hx _=>⟨.hole,act s,1,([],1),rfl,.inl ⟨s,rfl⟩,rfl,zaf.2 rfl,zus.1 hx⟩,fun h=>by simp [qo] at h⟩
 |skip,hs,hf=>by unfold settled at hs;rw [zqu] at hs;cases hs
 |throw,hs,hf=>by unfold settled at hs;rw [znv] at hs;cases hs
 |yield,hs,hf=>⟨fun _ _ F x hx hc=>by
  rcases zkw.1 hx with rfl|rfl
  ·exact ⟨.hole,yield,4,([],1),rfl,.inr (.inr (.inl rfl)),.inl rfl,zaf.2 rfl,rfl⟩
  ·have hF:F=true:=by
    rcases hc with h|h|h
    ·exact h
    ·exact absurd rfl h
    ·exact absurd rfl h
   exact ⟨.hole,yield,5,([],3),rfl,.inr (.inr (.inl rfl)),.inr ⟨rfl,hF⟩,zaf.2 rfl,rfl⟩,fun h=>by simp [qo] at h⟩
 |over s,hs,hf=>⟨fun _ h=>by simp [zhh] at h,fun h=>by simp [qo] at h⟩
 |fin s a,hs,hf=>⟨fun h=>by simp [po] at h,fun _ h=>by simp [isFin] at h⟩
 |alt a b,hs,hf=>⟨fun _ _ F x hx hc=>by
  rcases zqd.1 hx with h|h
  ·exact ⟨.hole,alt a b,2,x,rfl,.inr (.inl ⟨a,b,rfl⟩),.inl rfl,h,rfl⟩
  ·exact ⟨.hole,alt a b,3,x,rfl,.inr (.inl ⟨a,b,rfl⟩),.inr rfl,h,rfl⟩,fun _ _ F x hx hc=>by
  rcases zqe.1 hx with h|h
  ·exact ⟨.hole,alt a b,2,x,rfl,.inr (.inl ⟨a,b,rfl⟩),.inl rfl,h,rfl⟩
  ·exact ⟨.hole,alt a b,3,x,rfl,.inr (.inl ⟨a,b,rfl⟩),.inr rfl,h,rfl⟩⟩
 |pair a b,hs,hf=>⟨fun h=>by simp [po] at h,fun _ _ F x hx hc=>by
  rcases znb.1 hx with h|rfl
  ·exact ⟨.hole,pair a b,4,x,rfl,.inr (.inr (.inr ⟨a,b,rfl⟩)),.inl rfl,zda.2 h,rfl⟩
  ·have hF:F=true:=by
    rcases hc with h|h|h
    ·exact h
    ·exact absurd rfl h
    ·exact absurd rfl h
   exact ⟨.hole,pair a b,5,(([],3),([],1)),rfl,.inr (.inr (.inr ⟨a,b,rfl⟩)),.inr ⟨rfl,hF⟩,zaq.2 ⟨_,zke.2 rfl,rfl⟩,rfl⟩⟩
 |seq a b,hs,hf=>by
  obtain ⟨h1,h2,h3⟩:=qfr hs
  obtain ⟨iha,ihb⟩:=zog a h1 hf.1
  refine ⟨fun h _ F x hx hc=> ?_,fun h _ F x hx hc=> ?_⟩
  ·simp only [po,Bool.and_eq_true] at h
   obtain ⟨p,hp,q,hq,rfl⟩:=zec.1 hx
   obtain ⟨c,u,how,y,rfl,e2,e3,e4,rfl⟩:=iha h.1 h2 F p hp (ynl hc)
   exact ⟨.seq c b,u,how,_,rfl,e2,e3,zec.2 ⟨y,e4,q,hq,rfl⟩,quz u y q⟩
  ·simp only [qo,Bool.and_eq_true] at h
   obtain ⟨p,hp,q,hq,rfl⟩:=zfs.1 hx
   obtain ⟨c,u,how,y,rfl,e2,e3,e4,rfl⟩:=ihb h.1 h3 F p hp (ysz hc)
   exact ⟨.seq c b,u,how,_,rfl,e2,e3,zfs.2 ⟨y,e4,q,hq,rfl⟩,yex u y q⟩
 |hand a b,hs,hf=>by
  obtain ⟨h1,h2⟩:=qbw hs
  refine ⟨fun h _ F x hx hc=> ?_,fun h=>by simp [qo] at h⟩
  simp only [po,Bool.and_eq_true] at h
  obtain ⟨p,hp,q,hq,rfl⟩:=zel.1 hx
  obtain ⟨c,u,how,y,rfl,e2,e3,e4,rfl⟩:=(zog a h1 hf.1).1 h.1 h2 F p hp (ynm hc)
  exact ⟨.hand c b,u,how,_,rfl,e2,e3,zel.2 ⟨y,e4,q,hq,rfl⟩,yev u y q⟩
 |going a b,hs,hf=>by
  obtain ⟨h1,h2⟩:=zyi hs
  refine ⟨fun h=>by simp [po] at h,fun h _ F x hx hc=> ?_⟩
  simp only [qo,Bool.and_eq_true] at h
  obtain ⟨p,hp,q,hq,rfl⟩:=zda.1 hx
  obtain ⟨c,u,how,y,rfl,e2,e3,e4,rfl⟩:=(zog a h1 hf.1).1 h.1 h2 F p hp hc
  exact ⟨.going c b,u,how,_,rfl,e2,e3,zda.2 ⟨y,e4,q,hq,rfl⟩,rfl⟩
 |stack a b,hs,hf=>by
  obtain ⟨h1,h2⟩:=zyh hs
  refine ⟨fun h=>by simp [po] at h,fun h _ F x hx hc=> ?_⟩
  simp only [qo,Bool.and_eq_true] at h
  obtain ⟨p,hp,q,hq,rfl⟩:=zeg.1 hx
  obtain ⟨c,u,how,y,rfl,e2,e3,e4,rfl⟩:=(zog a h1 hf.1).2 h.1 h2 F p hp hc
  exact ⟨.stack c b,u,how,_,rfl,e2,e3,zeg.2 ⟨y,e4,q,hq,rfl⟩,rfl⟩
 |block a,hs,hf=>by
  obtain ⟨h1,h2⟩:=zyj hs
  refine ⟨fun h _ F x hx hc=> ?_,fun h=>by simp [qo] at h⟩
  simp only [po] at h
  obtain ⟨z,hz,hzx⟩:=zcf.1 hx
  have hc2:Cnd false z.1:=.inr (.inl (by rcases hzx with ⟨h,_⟩|⟨h,_⟩<;>omega))
  have hfin:a.isFin=false:=by
   cases a<;>first|rfl|skip
   rename_i s c _
   exfalso
   obtain ⟨q,hq,rfl⟩:=zaq.1 hz
   have:=h2 s c rfl
   rcases hzx with ⟨h,_⟩|⟨h,_⟩
   ·exact this.1 h
   ·exact this.2 h
  obtain ⟨c,u,how,y,rfl,e2,e3,e4,rfl⟩:=(zog a h1 hf).2 h hfin false z hz hc2
  rcases hzx with ⟨k,rfl⟩|⟨k,rfl⟩
  ·exact ⟨.block c,u,how,y.1,rfl,e2,e3,zcf.2 ⟨y,e4,.inl ⟨k,rfl⟩⟩,rfl⟩
  ·exact ⟨.block c,u,how,behT y.1 y.2,rfl,e2,e3,zcf.2 ⟨y,e4,.inr ⟨k,rfl⟩⟩,yew u y.1 y.2⟩
 |par a b,hs,hf=>by
  obtain ⟨h1,h2,h3,h4⟩:=zwk hs
  obtain ⟨iha,iha'⟩:=zog a h1 hf.1
  obtain ⟨ihb,ihb'⟩:=zog b h2 hf.2
  refine ⟨fun h _ F x hx hc=> ?_,fun h _ F x hx hc=> ?_⟩
  ·simp only [po,Bool.and_eq_true] at h
   obtain ⟨p,hp,q,hq,hm,hx2⟩:=zdi.1 hx
   cases hao:a.zhh with
   |true =>
    have hbo:b.zhh=false:=by rcases h3 with h3|h3;rw [hao] at h3;cases h3;exact h3
    cases a<;>first|(cases hao;done)|skip
    rename_i s
    have ep:=zaf.1 hp
    have e1:p.1=[]:=by rw [ep]
    have e2:x.1=q.1:=by rw [e1] at hm;exact hm.qjl
    exact yqw hp (ihb h.2 hbo _ q hq (qpb hf.1 hc (by rw [hx2,ep]) e2)) e1 hm hx2
   |false =>
    cases hbo:b.zhh with
    |true =>
     cases b<;>first|(cases hbo;done)|skip
     rename_i s
     have ep:=zaf.1 hq
     have e1:q.1=[]:=by rw [ep]
     have e2:x.1=p.1:=by rw [e1] at hm;exact hm.yfj
     exact yjz hq (iha h.1 hao _ p hp (qpb hf.2 hc (by rw [hx2,ep,yhp]) e2)) e1 hm hx2
    |false =>
     by_cases hp1:p.1=[]
     ·by_cases hq1:q.1=[]
      ·have hx1:x.1=[]:=by rw [hp1,hq1] at hm;exact hm.qjl
       rcases yhh hc hx2 hx1 with k|k|k
       ·exact yjz hq (iha h.1 hao _ p hp (.inl (by rw [k];rfl))) hq1 hm hx2
       ·exact yjz hq (iha h.1 hao _ p hp (.inr (.inl k))) hq1 hm hx2
       ·exact yqw hp (ihb h.2 hbo _ q hq (.inr (.inl k))) hp1 hm hx2
      ·exact yqw hp (ihb h.2 hbo _ q hq (.inr (.inr hq1))) hp1 hm hx2
     ·by_cases hq1:q.1=[]
      ·exact yjz hq (iha h.1 hao _ p hp (.inr (.inr hp1))) hq1 hm hx2
      ·exact ytz hp hq (iha h.1 hao _ p hp (.inr (.inr hp1))) (ihb h.2 hbo _ q hq (.inr (.inr hq1))) hm hx2
  ·simp only [qo,Bool.and_eq_true] at h
   obtain ⟨p,hp,q,hq,⟨hm,hx2⟩,m2,m3⟩:=zed.1 hx
   cases hao:a.isFin with
   |true =>
    have hbo:b.isFin=false:=by rcases h4 with h3|h3;rw [hao] at h3;cases h3;exact h3
    cases a<;>first|(cases hao;done)|skip
    rename_i s c
    obtain ⟨v,_,ep⟩:=zaq.1 hp
    have e1:p.1.1=[]:=by rw [ep]
    have e2:x.1.1=q.1.1:=by rw [e1] at hm;exact hm.qjl
    exact ycs hp (ihb' h.2 hbo _ q hq (qpb hf.1.1 hc (by rw [hx2,ep]) e2)) e1 hm hx2 m2 m3
   |false =>
    cases hbo:b.isFin with
    |true =>
     cases b<;>first|(cases hbo;done)|skip
     rename_i s c
     obtain ⟨v,_,ep⟩:=zaq.1 hq
     have e1:q.1.1=[]:=by rw [ep]
     have e2:x.1.1=p.1.1:=by rw [e1] at hm;exact hm.yfj
     exact qxl hq (iha' h.1 hao _ p hp (qpb hf.2.1 hc (by rw [hx2,ep,yhp]) e2)) e1 hm hx2 m2 m3
    |false =>
     by_cases hp1:p.1.1=[]
     ·by_cases hq1:q.1.1=[]
      ·have hx1:x.1.1=[]:=by rw [hp1,hq1] at hm;exact hm.qjl
       rcases yhh hc hx2 hx1 with k|k|k
       ·exact qxl hq (iha' h.1 hao _ p hp (.inl (by rw [k];rfl))) hq1 hm hx2 m2 m3
       ·exact qxl hq (iha' h.1 hao _ p hp (.inr (.inl k))) hq1 hm hx2 m2 m3
       ·exact ycs hp (ihb' h.2 hbo _ q hq (.inr (.inl k))) hp1 hm hx2 m2 m3
      ·exact ycs hp (ihb' h.2 hbo _ q hq (.inr (.inr hq1))) hp1 hm hx2 m2 m3
     ·by_cases hq1:q.1.1=[]
      ·exact qxl hq (iha' h.1 hao _ p hp (.inr (.inr hp1))) hq1 hm hx2 m2 m3
      ·exact yqx hp hq (iha' h.1 hao _ p hp (.inr (.inr hp1))) (ihb' h.2 hbo _ q hq (.inr (.inr hq1))) hm hx2 m2 m3
end Tm
end Go.Rd
