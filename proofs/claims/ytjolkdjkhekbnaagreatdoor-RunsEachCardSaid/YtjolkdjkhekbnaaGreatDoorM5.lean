/- Of what is settled: how it may look, that it is less. Plain Lean, no program in sight. -/
import Derived.Test.YtjolkdjkhekbnaaGreatDoorM4
import Derived.Test.YtjolkdjkhekbnaaGreatDoorM9
import Derived.Test.YtjolkdjkhekbnaaGreatDoorM3
namespace Go.Rd
open Go Go.Sv
def wfNd (n:Nd):Prop:=(Lit.int .i64 n.1).wf=true∧n.2.1.size≤reachBytes∧(Lit.int .i64 n.2.2).wf=true
def yjp (l:List Nd):Prop:=l.length≤reachBytes∧∀x∈l,wfNd x
theorem yjp.names {l:List Nd} (h:yjp l):∀n∈l,n.2.1.size≤9223372036854775807:=fun n hn=>by
 have:=(h.2 n hn).2.1
 unfold reachBytes at this
 omega
namespace Tm
def zhh:Tm→Bool
 |over _=>true
 |_=>false
def isFin:Tm→Bool
 |fin _ _=>true
 |_=>false
theorem qbw {a b:Tm} (h:(hand a b).settled):a.settled∧a.zhh=false:=by
 unfold settled at h ⊢
 rw [zqv] at h
 have hb:=b.zdk
 generalize hx:a.st=x at h
 cases x<;>simp only [hand'] at h<;>first|(injection h with h1 h2;subst h1;exact ⟨rfl,rfl⟩)|skip
 split at h
 ·have:=congrArg size h;rw [zba] at this;omega
 ·cases h
theorem qfr {a b:Tm} (h:(seq a b).settled):a.settled∧a.zhh=false∧a.isFin=false:=by
 unfold settled at h ⊢
 rw [zsn] at h
 have hb:=b.zdk
 generalize hx:a.st=x at h
 cases x<;>simp only [seq'] at h<;>first|(injection h with h1 h2;subst h1;exact ⟨rfl,rfl,rfl⟩)|skip
 ·split at h
  ·have:=congrArg size h;rw [zaw] at this;omega
  ·cases h
 ·split at h
  ·generalize b.st=y at h
   cases y<;>simp only [zhl] at h<;>cases h
  ·cases h
theorem zyi {a b:Tm} (h:(going a b).settled):a.settled∧a.zhh=false:=by
 unfold settled at h ⊢
 rw [zkj] at h
 generalize hx:a.st=x at h
 cases x<;>simp only [zvu] at h<;>first|(injection h with h1 h2;subst h1;exact ⟨rfl,rfl⟩)|skip
 split at h<;>cases h
theorem zyh {a b:Tm} (h:(stack a b).settled):a.settled∧a.isFin=false:=by
 unfold settled at h ⊢
 rw [zix] at h
 generalize hx:a.st=x at h
 cases x<;>simp only [zhl] at h<;>first|(injection h with h1 h2;subst h1;exact ⟨rfl,rfl⟩)|cases h
theorem zwk {a b:Tm} (h:(par a b).settled):a.settled∧b.settled∧(a.zhh=false∨b.zhh=false)∧(a.isFin=false∨b.isFin=false):=by
 unfold settled at h ⊢
 rw [zln] at h
 rcases zkd a.st b.st with ⟨s,z,_,_,e⟩|⟨s,c,z,d,_,_,e⟩|e
 ·rw [e] at h;cases h
 ·rw [e] at h;cases h
 ·have h0:=h
  rw [e] at h
  injection h with h1 h2
  refine ⟨h1,h2,?_,?_⟩
  ·cases ha:a.zhh with
   |false=>exact .inl rfl
   |true =>
    cases hb:b.zhh with
    |false=>exact .inr rfl
    |true =>
     exfalso
     rw [h1,h2] at h0
     cases a<;>cases ha
     cases b<;>cases hb
     cases h0
  ·cases ha:a.isFin with
   |false=>exact .inl rfl
   |true =>
    cases hb:b.isFin with
    |false=>exact .inr rfl
    |true =>
     exfalso
     rw [h1,h2] at h0
     cases a<;>cases ha
     cases b<;>cases hb
     cases h0
theorem zyj {a:Tm} (h:(block a).settled):a.settled∧(∀s c,a=fin s c→s≠1∧s≠2):=by
 unfold settled at h ⊢
 rw [zkk] at h
 have hsz:=a.zdk
 generalize hx:a.st=x at h hsz
 cases x<;>simp only [block'] at h<;>first|(injection h with h1;subst h1;exact ⟨rfl,fun s c e=>by cases e⟩)|skip
 rename_i s c
 split at h
 ·cases h
 ·split at h
  ·have h3:=congrArg size h
   have h4:=c.zdk
   rw [zcl] at hsz
   rw [zam] at h3
   omega
  ·rename_i h1 h2
   injection h with h3
   subst h3
   exact ⟨rfl,fun s' c' e=>by injection e with e1 _;rw [←e1];exact ⟨h1,h2⟩⟩
def waits:Tm→Bool
 |act _|alt _ _|yield|pair _ _=>true
 |seq a _|hand a _|going a _|stack a _|block a=>a.waits
 |par a b=>a.waits||b.waits
 |_=>false
def wt (w:Nd→Nat) (m:Tm):Nat:=(m.row.map w).sum
section
variable (w:Nd→Nat)
theorem yca (a b:Tm):(seq a b).wt w=w (nd 5)+(a.wt w+b.wt w):=by simp [wt,quj]
theorem ycb (a b:Tm):(par a b).wt w=w (nd 7)+(a.wt w+b.wt w):=by simp [wt,qno]
theorem ycc (a b:Tm):(hand a b).wt w=w (nd 8)+(a.wt w+b.wt w):=by simp [wt,qnp]
theorem qma (a:Tm):(block a).wt w=w (nd 9)+a.wt w:=by simp [wt,zta]
theorem qxf (a b:Tm):(going a b).wt w=w (nd 12)+(a.wt w+b.wt w):=by simp [wt,qgd]
theorem qxe (a b:Tm):(stack a b).wt w=w (nd 13)+(a.wt w+b.wt w):=by simp [wt,qfz]
theorem zvg (s:Int) (a:Tm):(fin s a).wt w=w (14,ByteArray.empty,s)+a.wt w:=by simp [wt,qnq]
theorem qad (s:Int):(over s).wt w=w (11,ByteArray.empty,s):=by simp [wt]
theorem yqq:skip.wt w=w (nd 2):=by simp [wt]
structure Light:Prop where
 skip:w (nd 2)=0
 over:∀s,w (11,ByteArray.empty,s)=0
 fin:∀s,w (14,ByteArray.empty,s)=0
 seq:w (nd 5)=0
 stack:w (nd 13)=0
theorem ytp (L:Light w):∀m:Tm,m.st.wt w≤m.wt w:=by
 intro m
 refine zug (p:=fun m=>m.st.wt w≤m.wt w) (fun m ih=> ?_) m
 have hst:∀x c:Tm,(zhl x c).wt w≤x.wt w+c.wt w:=fun x c=>by
  cases x<;>simp only [zhl]<;>first|(rw [qxe,L.stack];omega)|skip
  rename_i s d
  rw [zvg,yca,zvg,L.fin,L.seq];omega
 cases m with
 |act s=>rw [zvj];exact Nat.le_refl _
 |skip=>rw [zqu,qad,L.over];omega
 |throw=>rw [znv,qad,L.over];omega
 |yield=>rw [ziw];exact Nat.le_refl _
 |over s=>rw [zfb];exact Nat.le_refl _
 |alt a b=>rw [qbr];exact Nat.le_refl _
 |pair a b=>rw [zso];exact Nat.le_refl _
 |fin s a=>rw [zmp];exact Nat.le_refl _
 |hand a b =>
  have h1:=ih a (by rw [zba];omega)
  have h2:=ih b (by rw [zba];omega)
  rw [zqv,ycc]
  generalize a.st=x at h1
  cases x<;>simp only [hand']<;>first|(rw [ycc];omega)|skip
  split
  ·omega
  ·rw [qad,L.over];omega
 |seq a b =>
  have h1:=ih a (by rw [zaw];omega)
  have h2:=ih b (by rw [zaw];omega)
  rw [zsn,yca]
  generalize a.st=x at h1
  cases x<;>simp only [seq']<;>first|(rw [yca];omega)|skip
  ·split
   ·omega
   ·rw [qad,L.over];omega
  ·rename_i s c
   split
   ·rw [zvg,L.fin] at h1
    have:=hst b.st c
    omega
   ·omega
 |stack a c =>
  have h1:=ih a (by rw [zdh];omega)
  rw [zix,qxe]
  have:=hst a.st c
  omega
 |going a b =>
  have h1:=ih a (by rw [zce];omega)
  rw [zkj,qxf]
  generalize a.st=x at h1
  cases x<;>simp only [zvu]<;>first|(rw [qxf];omega)|skip
  split
  ·rw [zvg,L.fin];omega
  ·rw [zvg,L.fin,yqq,L.skip];omega
 |par a b =>
  have h1:=ih a (by rw [zbq];omega)
  have h2:=ih b (by rw [zbq];omega)
  rw [zln,ycb]
  rcases zkd a.st b.st with ⟨s,z,_,_,e⟩|⟨s,c,z,d,e1,e2,e⟩|e
  ·rw [e,qad,L.over];omega
  ·rw [e,zvg,ycb,L.fin]
   rw [e1,zvg,L.fin] at h1
   rw [e2,zvg,L.fin] at h2
   omega
  ·rw [e,ycb];omega
 |block a =>
  have h1:=ih a (by rw [zam];omega)
  have hsz:=a.zdk
  rw [zkk,qma]
  generalize a.st=x at h1 hsz
  cases x<;>simp only [block']<;>first|(rw [qma];omega)|skip
  rename_i s c
  rw [zvg,L.fin] at h1
  split
  ·rw [qad,L.over];omega
  ·split
   ·have:=ih c (by rw [zam];rw [zcl] at hsz;omega)
    omega
   ·rw [qma,zvg,L.fin];omega
end
end Tm
theorem zxu (q:Tc):zlc ([],1) q=q:=by simp [zlc]
namespace Tm
end Tm
namespace Tm
theorem qpt {a a' b b':Tm} (h:a.tr=a'.tr) (k:b.tr=b'.tr):(seq a b).tr=(seq a' b').tr:=zsi fun x=>by rw [zec,zec,h,k]
theorem qmn {a a' b b':Tm} (h:a.tr=a'.tr) (k:b.tr=b'.tr):(hand a b).tr=(hand a' b').tr:=zsi fun x=>by rw [zel,zel,h,k]
theorem qpu {a a' b b':Tm} (h:a.tr=a'.tr) (k:b.tr=b'.tr):(par a b).tr=(par a' b').tr:=zsi fun x=>by rw [zdi,zdi,h,k]
theorem qiy {a a':Tm} (h:a.pq=a'.pq):(block a).tr=(block a').tr:=zsi fun x=>by rw [zcf,zcf,h]
theorem qrl {a a' b b':Tm} (h:a.pq=a'.pq) (k:b.pq=b'.pq):(seq a b).pq=(seq a' b').pq:=zvq fun x=>by rw [zfs,zfs,h,k]
theorem qrm {a a' b b':Tm} (h:a.pq=a'.pq) (k:b.pq=b'.pq):(par a b).pq=(par a' b').pq:=zvq fun x=>by rw [zed,zed,h,k]
theorem zvp {a a' c c':Tm} (h:a.pq=a'.pq) (k:c.tr=c'.tr):(stack a c).pq=(stack a' c').pq:=zvq fun x=>by rw [zeg,zeg,h,k]
theorem qjk {a a' b b':Tm} (h:a.tr=a'.tr) (k:b.tr=b'.tr):(going a b).pq=(going a' b').pq:=zvq fun x=>by rw [zda,zda,h,k]
theorem qrk (x c:Tm):(zhl x c).pq=(stack x c).pq:=by
 cases x with
 |fin s d =>
  refine zvq fun z=> ?_
  show z∈(fin s (seq d c)).pq↔_
  rw [zaq,zeg]
  constructor
  ·rintro ⟨q,hq,rfl⟩
   obtain ⟨u,hu,v,hv,rfl⟩:=zec.1 hq
   exact ⟨_,zaq.2 ⟨u,hu,rfl⟩,v,hv,rfl⟩
  ·rintro ⟨p,hp,q,hq,rfl⟩
   obtain ⟨u,hu,rfl⟩:=zaq.1 hp
   exact ⟨_,zec.2 ⟨u,hu,q,hq,rfl⟩,rfl⟩
 |_=>rfl
theorem yqs (x y:Tm) (hx:x.po=true) (hy:y.po=true):(par' x y).tr=(par x y).tr:=by
 rcases zkd x y with ⟨s,z,rfl,rfl,e⟩|⟨s,c,z,d,rfl,rfl,e⟩|e
 ·rw [e]
  refine zsi fun w=> ?_
  rw [zaf,zdi]
  constructor
  ·rintro rfl
   exact ⟨_,zaf.2 rfl,_,zaf.2 rfl,.nil,rfl⟩
  ·rintro ⟨p,hp,q,hq,h1,h2⟩
   rw [zaf.1 hp,zaf.1 hq] at h1 h2
   exact Prod.ext h1.qjl h2
 ·simp [po] at hx
 ·rw [e]
theorem ysd (x y:Tm) (hx:x.qo=true) (hy:y.qo=true):(par' x y).pq=(par x y).pq:=by
 rcases zkd x y with ⟨s,z,rfl,rfl,e⟩|⟨s,c,z,d,rfl,rfl,e⟩|e
 ·simp [qo] at hx
 ·rw [e]
  refine zvq fun w=> ?_
  rw [zaq,zed]
  constructor
  ·rintro ⟨q,hq,rfl⟩
   obtain ⟨u,hu,v,hv,h1,h2⟩:=zdi.1 hq
   exact ⟨_,zaq.2 ⟨u,hu,rfl⟩,_,zaq.2 ⟨v,hv,rfl⟩,⟨.nil,rfl⟩,h1,h2⟩
  ·rintro ⟨p,hp,q,hq,⟨h1,h2⟩,h3,h4⟩
   obtain ⟨u,hu,rfl⟩:=zaq.1 hp
   obtain ⟨v,hv,rfl⟩:=zaq.1 hq
   exact ⟨w.2,zdi.2 ⟨u,hu,v,hv,h3,h4⟩,Prod.ext (Prod.ext h1.qjl h2) rfl⟩
 ·rw [e]
theorem qtw {s:Int} {b:Tm} (hs:s≠1) (hb:∃x,x∈b.tr):(seq (over s) b).tr=(over s).tr:=zsi fun x=>by
 rw [zec,zaf]
 constructor
 ·rintro ⟨p,hp,q,hq,rfl⟩
  rw [zaf.1 hp]
  unfold zlc
  rw [if_neg hs]
 ·rintro rfl
  obtain ⟨q,hq⟩:=hb
  exact ⟨_,zaf.2 rfl,q,hq,by unfold zlc;rw [if_neg hs]⟩
theorem qpv {s:Int} {b:Tm} (hs:s≠2) (hb:∃x,x∈b.tr):(hand (over s) b).tr=(over s).tr:=zsi fun x=>by
 rw [zel,zaf]
 constructor
 ·rintro ⟨p,hp,q,hq,rfl⟩
  rw [zaf.1 hp]
  unfold qhj
  rw [if_neg hs]
 ·rintro rfl
  obtain ⟨q,hq⟩:=hb
  exact ⟨_,zaf.2 rfl,q,hq,by unfold qhj;rw [if_neg hs]⟩
theorem yac {s:Int} {c b:Tm} (hs:s≠1) (hb:∃x,x∈b.pq):(seq (fin s c) b).pq=(fin s c).pq:=zvq fun x=>by
 rw [zfs]
 constructor
 ·rintro ⟨p,hp,q,hq,rfl⟩
  have hp':=hp
  obtain ⟨u,hu,rfl⟩:=zaq.1 hp'
  unfold seqF
  rw [if_neg hs]
  exact hp
 ·intro hx
  obtain ⟨q,hq⟩:=hb
  refine ⟨x,hx,q,hq,?_⟩
  obtain ⟨u,hu,rfl⟩:=zaq.1 hx
  unfold seqF
  rw [if_neg hs]
theorem qux {c b:Tm}:(seq (fin 1 c) b).pq=(stack b c).pq:=zvq fun x=>by
 rw [zfs,zeg]
 constructor
 ·rintro ⟨p,hp,q,hq,rfl⟩
  obtain ⟨u,hu,rfl⟩:=zaq.1 hp
  refine ⟨q,hq,u,hu,?_⟩
  unfold seqF
  rw [if_pos rfl,zxu]
 ·rintro ⟨p,hp,q,hq,rfl⟩
  refine ⟨_,zaq.2 ⟨q,hq,rfl⟩,p,hp,?_⟩
  unfold seqF
  rw [if_pos rfl,zxu]
theorem qmm (b:Tm):(hand (over 2) b).tr=b.tr:=zsi fun x=>by
 rw [zel]
 constructor
 ·rintro ⟨p,hp,q,hq,rfl⟩
  rw [zaf.1 hp];exact hq
 ·exact fun h=>⟨_,zaf.2 rfl,x,h,rfl⟩
theorem qpw (b:Tm):(seq (over 1) b).tr=b.tr:=zsi fun x=>by
 rw [zec]
 constructor
 ·rintro ⟨p,hp,q,hq,rfl⟩
  rw [zaf.1 hp,zxu];exact hq
 ·exact fun h=>⟨_,zaf.2 rfl,x,h,(zxu x).symm⟩
theorem qxo:∀m:Tm,(m.po=true→m.st.tr=m.tr)∧(m.qo=true→m.st.pq=m.pq):=by
 intro m
 induction m using zug with
 |h m ih =>
  cases m with
  |act s=>rw [zvj];exact ⟨fun _=>rfl,fun _=>rfl⟩
  |yield=>rw [ziw];exact ⟨fun _=>rfl,fun _=>rfl⟩
  |skip=>rw [zqu];exact ⟨fun _=>rfl,fun h=>by simp [qo] at h⟩
  |throw=>rw [znv];exact ⟨fun _=>rfl,fun h=>by simp [qo] at h⟩
  |over s=>rw [zfb];exact ⟨fun _=>rfl,fun _=>rfl⟩
  |alt a b=>rw [qbr];exact ⟨fun _=>rfl,fun _=>rfl⟩
  |pair a b=>rw [zso];exact ⟨fun _=>rfl,fun _=>rfl⟩
  |fin s a=>rw [zmp];exact ⟨fun _=>rfl,fun _=>rfl⟩
  |hand a b =>
   refine ⟨fun h=> ?_,fun h=>by simp [qo] at h⟩
   simp only [po,Bool.and_eq_true] at h
   have ha:=(ih a (by rw [zba];omega)).1 h.1
   have hb:=(ih b (by rw [zba];omega)).1 (zga h.2)
   have hne:=yjx h.2
   rw [zqv,qmn (b:=b) ha.symm rfl]
   cases hx:a.st with
   |over s =>
    simp only [hand']
    split
    ·rename_i h2
     rw [hb,h2,qmm]
    ·rename_i h2
     rw [qpv h2 hne]
   |_=>rfl
  |seq a b =>
   refine ⟨fun h=> ?_,fun h=> ?_⟩
   ·simp only [po,Bool.and_eq_true] at h
    have ha:=(ih a (by rw [zaw];omega)).1 h.1
    have hb:=(ih b (by rw [zaw];omega)).1 (zga h.2)
    have hne:=yjx h.2
    have hpo:=qzf h.1
    rw [zsn,qpt (b:=b) ha.symm rfl]
    cases hx:a.st with
    |over s =>
     simp only [seq']
     split
     ·rename_i h2
      rw [hb,h2,qpw]
     ·rename_i h2
      rw [qtw h2 hne]
    |fin s c=>rw [hx] at hpo;simp [po] at hpo
    |_=>rfl
   ·simp only [qo,Bool.and_eq_true] at h
    have ha:=(ih a (by rw [zaw];omega)).2 h.1
    have hb:=(ih b (by rw [zaw];omega)).2 (zrn h.2)
    have hne:=ywf h.2
    have hqo:=yct h.1
    rw [zsn,qrl (b:=b) ha.symm rfl]
    cases hx:a.st with
    |over s=>rw [hx] at hqo;simp [qo] at hqo
    |fin s c =>
     simp only [seq']
     split
     ·rename_i h2
      rw [qrk,h2,qux]
      exact zvp hb rfl
     ·rename_i h2
      rw [yac h2 hne]
    |_=>rfl
  |stack a c =>
   refine ⟨fun h=>by simp [po] at h,fun h=> ?_⟩
   simp only [qo,Bool.and_eq_true] at h
   have ha:=(ih a (by rw [zdh];omega)).2 h.1
   rw [zix,qrk]
   exact zvp ha rfl
  |going a b =>
   refine ⟨fun h=>by simp [po] at h,fun h=> ?_⟩
   simp only [qo,Bool.and_eq_true] at h
   have ha:=(ih a (by rw [zce];omega)).1 h.1
   have hne:=yjx h.2
   rw [zkj,qjk (b:=b) ha.symm rfl]
   cases hx:a.st with
   |over s =>
    simp only [zvu]
    split
    ·rename_i h2
     subst h2
     refine zvq fun x=> ?_
     rw [zaq,zda]
     constructor
     ·rintro ⟨q,hq,rfl⟩
      exact ⟨_,zaf.2 rfl,q,hq,rfl⟩
     ·rintro ⟨p,hp,q,hq,rfl⟩
      rw [zaf.1 hp]
      exact ⟨q,hq,rfl⟩
    ·rename_i h2
     refine zvq fun x=> ?_
     rw [zaq,zda]
     constructor
     ·rintro ⟨q,hq,rfl⟩
      obtain ⟨y,hy⟩:=hne
      refine ⟨_,zaf.2 rfl,y,hy,?_⟩
      rw [zke.1 hq]
      unfold goF
      rw [if_neg h2]
     ·rintro ⟨p,hp,q,hq,rfl⟩
      rw [zaf.1 hp]
      refine ⟨_,zke.2 rfl,?_⟩
      unfold goF
      rw [if_neg h2]
   |_=>rfl
  |par a b =>
   refine ⟨fun h=> ?_,fun h=> ?_⟩
   ·simp only [po,Bool.and_eq_true] at h
    have ha:=(ih a (by rw [zbq];omega)).1 h.1
    have hb:=(ih b (by rw [zbq];omega)).1 h.2
    rw [zln,yqs _ _ (qzf h.1) (qzf h.2)]
    exact qpu ha hb
   ·simp only [qo,Bool.and_eq_true] at h
    have ha:=(ih a (by rw [zbq];omega)).2 h.1
    have hb:=(ih b (by rw [zbq];omega)).2 h.2
    rw [zln,ysd _ _ (yct h.1) (yct h.2)]
    exact qrm ha hb
  |block a =>
   refine ⟨fun h=> ?_,fun h=>by simp [qo] at h⟩
   simp only [po] at h
   have ha:=(ih a (by rw [zam];omega)).2 h
   have hqo:=yct h
   have hsz:=zdk a
   rw [zkk,qiy ha.symm]
   cases hx:a.st with
   |fin s c =>
    rw [hx] at hqo hsz
    simp only [qo] at hqo
    rw [zcl] at hsz
    simp only [block']
    split
    ·rename_i h1
     subst h1
     refine zsi fun x=> ?_
     rw [zaf,zcf]
     constructor
     ·rintro rfl
      obtain ⟨q,hq⟩:=yjx hqo
      exact ⟨_,zaq.2 ⟨q,hq,rfl⟩,.inl ⟨rfl,rfl⟩⟩
     ·rintro ⟨z,hz,h⟩
      obtain ⟨q,hq,rfl⟩:=zaq.1 hz
      rcases h with ⟨_,rfl⟩|⟨h,_⟩
      ·rfl
      ·exact absurd (show (1:Int)=2 from h) (by decide)
    ·split
     ·rename_i h1 h2
      subst h2
      rw [(ih c (by rw [zam];omega)).1 (zga hqo)]
      refine zsi fun x=> ?_
      rw [zcf]
      constructor
      ·exact fun hx=>⟨_,zaq.2 ⟨x,hx,rfl⟩,.inr ⟨rfl,rfl⟩⟩
      ·rintro ⟨z,hz,h⟩
       obtain ⟨q,hq,rfl⟩:=zaq.1 hz
       rcases h with ⟨h,_⟩|⟨_,rfl⟩
       ·exact absurd (show (2:Int)=1 from h) (by decide)
       ·exact hq
     ·rfl
   |_=>rfl
end Tm
end Go.Rd
