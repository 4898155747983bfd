/- What was begun never comes to a stop ahead of its end: no block's inside gives way. Plain Lean, no program in sight. -/
import Derived.Test.YtjolkdjkhekbnaaGreatDoorR07
set_option linter.unusedVariables false
set_option linter.unusedSimpArgs false
namespace Go.Rd
open Go Go.Sv
namespace Tm
def ngv:Tm→Bool
 |over s=>decide (s≠3)
 |fin s _=>decide (s≠3)
 |seq a _=>a.ngv
 |hand a _=>a.ngv
 |going a _=>a.ngv
 |stack a _=>a.ngv
 |par a b=>a.bang||b.bang||(a.ngv&&b.ngv)
 |_=>true
def okB:Tm→Bool
 |block a=>a.ngv&&a.okB
 |seq a _=>a.okB
 |hand a _=>a.okB
 |going a _=>a.okB
 |stack a _=>a.okB
 |par a b=>a.okB&&b.okB
 |_=>true
theorem qal:∀m:Tm,(m.pl=true→m.okB=true∧m.ngv=true)∧(m.pa=true→m.okB=true∧m.ngv=true)
 |act s|skip|throw|yield=>⟨fun _=>⟨rfl,rfl⟩,fun _=>⟨rfl,rfl⟩⟩
 |over s|fin s a=>⟨fun h=>by simp [pl] at h,fun h=>by simp [pa] at h⟩
 |alt a b|pair a b=>⟨fun _=>⟨rfl,rfl⟩,fun _=>⟨rfl,rfl⟩⟩
 |going a b|stack a b=>⟨fun h=>by simp [pl] at h,fun h=>by simp [pa] at h⟩
 |seq a b=>⟨fun h=>by simp only [pl,Bool.and_eq_true] at h;exact (qal a).1 h.1,fun h=>by simp only [pa,Bool.and_eq_true] at h;exact (qal a).2 h.1⟩
 |hand a b=>⟨fun h=>by simp only [pl,Bool.and_eq_true] at h;exact (qal a).1 h.1,fun h=>by simp [pa] at h⟩
 |par a b=>⟨fun h=>by
  simp only [pl,Bool.and_eq_true] at h;obtain ⟨h1,h2⟩:=(qal a).1 h.1;obtain ⟨h3,h4⟩:=(qal b).1 h.2;simp only [okB,ngv,h1,h2,h3,h4,Bool.and_self,Bool.or_true,and_self],fun h=>by
  simp only [pa,Bool.and_eq_true] at h;obtain ⟨h1,h2⟩:=(qal a).2 h.1;obtain ⟨h3,h4⟩:=(qal b).2 h.2;simp only [okB,ngv,h1,h2,h3,h4,Bool.and_self,Bool.or_true,and_self]⟩
 |block a=>⟨fun h=>by simp only [pl] at h;obtain ⟨h1,h2⟩:=(qal a).2 h;simp only [okB,ngv,h1,h2,Bool.and_self,and_self],fun h=>by simp [pa] at h⟩
theorem ykv {x c:Tm} (h:x.bang=true):(zjt x c).bang=true:=by cases x<;>first|exact h|skip
theorem bs2 {s z:Int} (hs:zkw s=true) (hz:zkw z=true) (h:s=2∨z=2):bs s z=2:=by unfold bs;rw [hs,hz];simp only [Bool.and_self,if_true];rw [if_pos h]
theorem ywq:∀m:Tm,m.fine→m.bang=true→m.st.bang=true:=by
 intro m
 induction m with
 |over s=>intro _ h;rw [zgf];exact h
 |fin s a _=>intro _ h;rw [zpj];exact h
 |seq a b iha _=>
  intro hf h;have ih:=iha hf.1 h;rw [zyb];generalize a.st=x at ih;cases x<;>simp only [seq']<;>first|exact ih|skip
  ·rename_i s;have:s=2:=of_decide_eq_true ih;rw [if_neg (by omega)];exact ih
  ·rename_i s c;have:s=2:=of_decide_eq_true ih;rw [if_neg (by omega)];exact ih
 |going a b iha _=>
  intro hf h;have ih:=iha hf.1 h;rw [zlt];generalize a.st=x at ih;cases x<;>simp only [qav]<;>first|exact ih|skip
  ·rename_i s;have:s=2:=of_decide_eq_true ih;rw [if_neg (by omega)];exact ih
 |stack a b iha _=>intro hf h;rw [zkr];exact ykv (iha hf.1 h)
 |par a b iha ihb=>
  intro hf h;have fa:=qjh hf.1;have fb:=qjh hf.2;have h':a.st.bang=true∨b.st.bang=true:=by simp only [bang,Bool.or_eq_true] at h;exact h.imp (iha hf.1) (ihb hf.2)
  rw [zob];generalize a.st=x at h' fa;generalize b.st=y at h' fb;rcases znh x y with ⟨s,z,rfl,rfl,e⟩|⟨s,c,z,d,rfl,rfl,e⟩|e
  ·rw [e];refine decide_eq_true (bs2 fa fb ?_);rcases h' with h'|h'
   ·exact .inl (of_decide_eq_true h')
   ·exact .inr (of_decide_eq_true h')
  ·rw [e];refine decide_eq_true (bs2 fa.1 fb.1 ?_);rcases h' with h'|h'
   ·exact .inl (of_decide_eq_true h')
   ·exact .inr (of_decide_eq_true h')
  ·rw [e];simp only [bang,Bool.or_eq_true];exact h'
 |_=>intro _ h;simp [bang] at h
theorem xka {s z:Int} (hs:s≠3) (hz:z≠3):bs s z≠3:=by
 unfold bs;split
 ·split
  ·omega
  ·split<;>omega
 ·omega
theorem ywj {s z:Int} (h:s=2∨z=2):bs s z≠3:=by
 unfold bs;simp only [if_pos h];split
 ·decide
 ·decide
theorem xkn:∀m:Tm,m.fine→(m.po=true∨m.qo=true)→m.okB=true→m.st.okB=true∧(m.ngv=true→m.st.ngv=true):=by
 intro m
 induction m using qbl with
 |h m ih=>
  intro hf ho hk;have hstk:∀x c:Tm,x.okB=true→(zjt x c).okB=true:=fun x c h=>by cases x<;>first|exact h|rfl
  have hstn:∀x c:Tm,x.ngv=true→(zjt x c).ngv=true:=fun x c h=>by cases x<;>exact h
  cases m with
  |act s=>rw [zyx];exact ⟨rfl,fun _=>rfl⟩
  |skip=>rw [zti];exact ⟨rfl,fun _=>rfl⟩
  |throw=>rw [zpp];exact ⟨rfl,fun _=>rfl⟩
  |yield=>rw [zkq];exact ⟨rfl,fun _=>rfl⟩
  |over s=>rw [zgf];exact ⟨rfl,fun h=>h⟩
  |alt a b=>rw [qgi];exact ⟨rfl,fun _=>rfl⟩
  |pair a b=>rw [zwj];exact ⟨rfl,fun _=>rfl⟩
  |fin s a=>rw [zpj];exact ⟨rfl,fun h=>h⟩
  |hand a b=>
   have hp:a.po=true∧b.pl=true:=by
    rcases ho with h|h
    ·simpa only [po,Bool.and_eq_true] using h
    ·simp [qo] at h
   obtain ⟨a1,a2⟩:=ih a (by rw [zay];omega) hf.1 (.inl hp.1) hk;obtain ⟨k1,k2⟩:=(qal b).1 hp.2;obtain ⟨b1,b2⟩:=ih b (by rw [zay];omega) hf.2 (.inl (zbv hp.2)) k1;have a3:(hand a b).ngv=true→a.st.ngv=true:=a2;rw [ztj];generalize a.st=x at a1 a3;cases x<;>simp only [hand']<;>first|exact ⟨a1,a3⟩|skip
   split
   ·exact ⟨b1,fun _=>b2 k2⟩
   ·exact ⟨rfl,a3⟩
  |seq a b=>
   have hp:(a.po=true∨a.qo=true)∧(b.pl=true∨b.pa=true):=by
    rcases ho with h|h
    ·simp only [po,Bool.and_eq_true] at h;exact ⟨.inl h.1,.inl h.2⟩
    ·simp only [qo,Bool.and_eq_true] at h;exact ⟨.inr h.1,.inr h.2⟩
   obtain ⟨a1,a2⟩:=ih a (by rw [zau];omega) hf.1 hp.1 hk;obtain ⟨k1,k2⟩:b.okB=true∧b.ngv=true:=hp.2.elim (qal b).1 (qal b).2;obtain ⟨b1,b2⟩:=ih b (by rw [zau];omega) hf.2 (hp.2.imp zbv zhe) k1;have a3:(seq a b).ngv=true→a.st.ngv=true:=a2;rw [zyb];generalize a.st=x at a1 a3;cases x<;>simp only [seq']<;>first|exact ⟨a1,a3⟩|skip
   ·split
    ·exact ⟨b1,fun _=>b2 k2⟩
    ·exact ⟨rfl,a3⟩
   ·split
    ·exact ⟨hstk _ _ b1,fun _=>hstn _ _ (b2 k2)⟩
    ·exact ⟨rfl,a3⟩
  |stack a c=>
   have hp:a.qo=true:=by
    rcases ho with h|h
    ·simp [po] at h
    ·simp only [qo,Bool.and_eq_true] at h;exact h.1
   obtain ⟨a1,a2⟩:=ih a (by rw [zca];omega) hf.1 (.inr hp) hk;rw [zkr];exact ⟨hstk _ _ a1,fun h=>hstn _ _ (a2 h)⟩
  |going a b=>
   have hp:a.po=true:=by
    rcases ho with h|h
    ·simp [po] at h
    ·simp only [qo,Bool.and_eq_true] at h;exact h.1
   obtain ⟨a1,a2⟩:=ih a (by rw [zbo];omega) hf.1 (.inl hp) hk;have a3:(going a b).ngv=true→a.st.ngv=true:=a2;rw [zlt];generalize a.st=x at a1 a3;cases x<;>simp only [qav]<;>first|exact ⟨a1,a3⟩|skip
   split
   ·exact ⟨rfl,fun _=>rfl⟩
   ·exact ⟨rfl,a3⟩
  |par a b=>
   have hp:(a.po=true∨a.qo=true)∧(b.po=true∨b.qo=true):=by
    rcases ho with h|h
    ·simp only [po,Bool.and_eq_true] at h;exact ⟨.inl h.1,.inl h.2⟩
    ·simp only [qo,Bool.and_eq_true] at h;exact ⟨.inr h.1,.inr h.2⟩
   have hk':a.okB=true∧b.okB=true:=by simpa only [okB,Bool.and_eq_true] using hk
   obtain ⟨a1,a2⟩:=ih a (by rw [zbj];omega) hf.1 hp.1 hk'.1;obtain ⟨b1,b2⟩:=ih b (by rw [zbj];omega) hf.2 hp.2 hk'.2;have n3:(par a b).ngv=true→(a.st.bang=true∨b.st.bang=true)∨(a.st.ngv=true∧b.st.ngv=true):=fun h=>by
    simp only [ngv,Bool.or_eq_true,Bool.and_eq_true] at h;rcases h with (h|h)|h
    ·exact .inl (.inl (ywq a hf.1 h))
    ·exact .inl (.inr (ywq b hf.2 h))
    ·exact .inr ⟨a2 h.1,b2 h.2⟩
   rw [zob];generalize a.st=x at a1 n3;generalize b.st=y at b1 n3;have key:∀s z:Int,(x.bang=decide (s=2))→(y.bang=decide (z=2))→(x.ngv=decide (s≠3))→(y.ngv=decide (z≠3))→(par a b).ngv=true→bs s z≠3:=fun s z e1 e2 e3 e4 h=>by
    rcases n3 h with (h|h)|⟨h,h'⟩
    ·exact ywj (.inl (of_decide_eq_true (e1▸h)))
    ·exact ywj (.inr (of_decide_eq_true (e2▸h)))
    ·exact xka (of_decide_eq_true (e3▸h)) (of_decide_eq_true (e4▸h'))
   rcases znh x y with ⟨s,z,rfl,rfl,e⟩|⟨s,c,z,d,rfl,rfl,e⟩|e
   ·rw [e];exact ⟨rfl,fun h=>decide_eq_true (key s z rfl rfl rfl rfl h)⟩
   ·rw [e];exact ⟨rfl,fun h=>decide_eq_true (key s z rfl rfl rfl rfl h)⟩
   ·rw [e];refine ⟨by simp only [okB,a1,b1,Bool.and_self],fun h=> ?_⟩;simp only [ngv,Bool.or_eq_true,Bool.and_eq_true];exact n3 h
  |block a=>
   have hp:a.qo=true:=by
    rcases ho with h|h
    ·exact h
    ·simp [qo] at h
   have hk':a.ngv=true∧a.okB=true:=by simpa only [okB,Bool.and_eq_true] using hk
   obtain ⟨a1,a2⟩:=ih a (by rw [zan];omega) hf (.inr hp) hk'.2;have a3:=a2 hk'.1;have hsz:=zbz a;have hfi:=qjh (m:=a) hf;have hqo:=qyk hp;rw [zlu];generalize a.st=x at a1 a3 hsz hfi hqo;have plain:(block x).okB=true∧((block a).ngv=true→(block x).ngv=true):=⟨by simp only [okB,a1,a3,Bool.and_self],fun _=>rfl⟩;cases x<;>simp only [block']<;>first|exact plain|skip
   rename_i s c;simp only [qo] at hqo;split
   ·exact ⟨rfl,fun _=>rfl⟩
   ·split
    ·obtain ⟨k1,k2⟩:=(qal c).1 hqo;obtain ⟨c1,c2⟩:=ih c (by rw [zan];rw [zbu] at hsz;omega) hfi.2 (.inl (zbv hqo)) k1;exact ⟨c1,fun _=>c2 k2⟩
    ·exact plain
theorem qay {u:Tm} {how:Int} (hu:u.Wt):∀(c:Cx) (F:Bool),((c.fill u).po=true∨(c.fill u).qo=true)→u.wayT how (c.fr F)→(c.fill u).okB=true→
 (c.fill (u.mdT how)).okB=true∧(F=false→(c.fill u).ngv=true→(c.fill (u.mdT how)).ngv=true)∧((c.fill u).bang=true→(c.fill (u.mdT how)).bang=true)
 | .hole,F,ho,hw,hk=>by
   have hb:u.bang=true→(u.mdT how).bang=true:=fun h=>by rcases hu with ⟨s,rfl⟩|⟨a,b,rfl⟩|rfl|⟨a,b,rfl⟩<;>simp [bang] at h
   have key:(u.mdT how).okB=true∧(F=false→(u.mdT how).ngv=true):=by
    rcases hu with ⟨s,rfl⟩|⟨a,b,rfl⟩|rfl|⟨a,b,rfl⟩
    ·exact ⟨rfl,fun _=>rfl⟩
    ·have hab:(a.okB=true∧a.ngv=true)∧(b.okB=true∧b.ngv=true):=by
      rcases ho with h|h
      ·have h':(a.pl&&b.pl)=true:=h;rw [Bool.and_eq_true] at h';exact ⟨(qal a).1 h'.1,(qal b).1 h'.2⟩
      ·have h':(a.pa&&b.pa)=true:=h;rw [Bool.and_eq_true] at h';exact ⟨(qal a).2 h'.1,(qal b).2 h'.2⟩
     show (if how=2 then a else b).okB=true∧(F=false→(if how=2 then a else b).ngv=true);split
     ·exact ⟨hab.1.1,fun _=>hab.1.2⟩
     ·exact ⟨hab.2.1,fun _=>hab.2.2⟩
    ·rcases hw with rfl|⟨rfl,h⟩
     ·exact ⟨rfl,fun _=>rfl⟩
     ·have h:F=true:=h;exact ⟨rfl,fun h2=>by rw [h] at h2;cases h2⟩
    ·have hab:a.okB=true∧a.ngv=true:=by
      rcases ho with h|h
      ·have h':false=true:=h;cases h'
      ·have h':(a.pl&&b.pl)=true:=h;rw [Bool.and_eq_true] at h';exact (qal a).1 h'.1
     rcases hw with rfl|⟨rfl,h⟩
     ·exact ⟨hab.1,fun _=>hab.2⟩
     ·have h:F=true:=h;exact ⟨rfl,fun h2=>by rw [h] at h2;cases h2⟩
   exact ⟨key.1,fun h _=>key.2 h,hb⟩
 | .seq c b,F,ho,hw,hk=>qay hu c F (ho.imp (fun h=>(Bool.and_eq_true _ _▸(show ((c.fill u).po&&b.pl)=true from h):_∧_).1) (fun h=>(Bool.and_eq_true _ _▸(show ((c.fill u).qo&&b.pa)=true from h):_∧_).1)) hw hk
 | .hand c b,F,ho,hw,hk=>by
   have ho':(c.fill u).po=true:=by
    rcases ho with h|h
    ·have h':((c.fill u).po&&b.pl)=true:=h;rw [Bool.and_eq_true] at h';exact h'.1
    ·have h':false=true:=h;cases h'
   obtain ⟨h1,h2,_⟩:=qay hu c F (.inl ho') hw hk;exact ⟨h1,h2,fun h=>by have h':false=true:=h;cases h'⟩
 | .going c b,F,ho,hw,hk=>by
   have ho':(c.fill u).po=true:=by
    rcases ho with h|h
    ·have h':false=true:=h;cases h'
    ·have h':((c.fill u).po&&b.pl)=true:=h;rw [Bool.and_eq_true] at h';exact h'.1
   exact qay hu c F (.inl ho') hw hk
 | .stack c b,F,ho,hw,hk=>by
   have ho':(c.fill u).qo=true:=by
    rcases ho with h|h
    ·have h':false=true:=h;cases h'
    ·have h':((c.fill u).qo&&b.pl)=true:=h;rw [Bool.and_eq_true] at h';exact h'.1
   exact qay hu c F (.inr ho') hw hk
 | .block c,F,ho,hw,hk=>by
   have ho':(c.fill u).qo=true:=by
    rcases ho with h|h
    ·exact h
    ·have h':false=true:=h;cases h'
   have hk':((c.fill u).ngv&&(c.fill u).okB)=true:=hk;rw [Bool.and_eq_true] at hk';obtain ⟨h1,h2,h3⟩:=qay hu c false (.inr ho') hw hk'.2;refine ⟨?_,fun _ _=>rfl,fun h=>by have h':false=true:=h;cases h'⟩;show ((c.fill (u.mdT how)).ngv&&(c.fill (u.mdT how)).okB)=true;rw [h1,h2 rfl hk'.1];rfl
 | .parL c b,F,ho,hw,hk=>by
   have ho':(c.fill u).po=true∨(c.fill u).qo=true:=by
    rcases ho with h|h
    ·have h':((c.fill u).po&&b.po)=true:=h;rw [Bool.and_eq_true] at h';exact .inl h'.1
    ·have h':((c.fill u).qo&&b.qo)=true:=h;rw [Bool.and_eq_true] at h';exact .inr h'.1
   have hk':((c.fill u).okB&&b.okB)=true:=hk;rw [Bool.and_eq_true] at hk';obtain ⟨h1,h2,h3⟩:=qay hu c (F||b.bang) ho' hw hk'.1;refine ⟨?_,fun hF hn=> ?_,fun h=> ?_⟩
   ·show ((c.fill (u.mdT how)).okB&&b.okB)=true;rw [h1,hk'.2];rfl
   ·have hn':((c.fill u).bang||b.bang||((c.fill u).ngv&&b.ngv))=true:=hn;show ((c.fill (u.mdT how)).bang||b.bang||((c.fill (u.mdT how)).ngv&&b.ngv))=true;cases hb:b.bang with
    |true=>simp
    |false=>
     rw [hb] at h2 hn';simp only [Bool.or_false,Bool.or_eq_true,Bool.and_eq_true] at hn' ⊢;rcases hn' with h|h
     ·exact .inl (h3 h)
     ·exact .inr ⟨h2 (by rw [hF];rfl) h.1,h.2⟩
   ·have h':((c.fill u).bang||b.bang)=true:=h;show ((c.fill (u.mdT how)).bang||b.bang)=true;rw [Bool.or_eq_true] at h' ⊢;exact h'.imp h3 id
 | .parR a c,F,ho,hw,hk=>by
   have ho':(c.fill u).po=true∨(c.fill u).qo=true:=by
    rcases ho with h|h
    ·have h':(a.po&&(c.fill u).po)=true:=h;rw [Bool.and_eq_true] at h';exact .inl h'.2
    ·have h':(a.qo&&(c.fill u).qo)=true:=h;rw [Bool.and_eq_true] at h';exact .inr h'.2
   have hk':(a.okB&&(c.fill u).okB)=true:=hk;rw [Bool.and_eq_true] at hk';obtain ⟨h1,h2,h3⟩:=qay hu c (F||a.bang) ho' hw hk'.2;refine ⟨?_,fun hF hn=> ?_,fun h=> ?_⟩
   ·show (a.okB&&(c.fill (u.mdT how)).okB)=true;rw [h1,hk'.1];rfl
   ·have hn':(a.bang||(c.fill u).bang||(a.ngv&&(c.fill u).ngv))=true:=hn;show (a.bang||(c.fill (u.mdT how)).bang||(a.ngv&&(c.fill (u.mdT how)).ngv))=true;cases hb:a.bang with
    |true=>simp
    |false=>
     rw [hb] at h2 hn';simp only [Bool.false_or,Bool.or_eq_true,Bool.and_eq_true] at hn' ⊢;rcases hn' with h|h
     ·exact .inl (h3 h)
     ·exact .inr ⟨h.1,h2 (by rw [hF];rfl) h.2⟩
   ·have h':(a.bang||(c.fill u).bang)=true:=h;show (a.bang||(c.fill (u.mdT how)).bang)=true;rw [Bool.or_eq_true] at h' ⊢;exact h'.imp id h3
end Tm
end Go.Rd
namespace Go.Proofs.YtjolkdjkhekbnaaGreatDoor.Sv
open Go Go.Sv Go.Rd
def Good (n:Tm):Prop:=n.fine∧n.st=n∧n.po=true∧n.small
theorem Good.set [Dfr] {n:Tm} (h:Good n):setL n.row:=qgf h.1 (by have:=h.2.2.2.1;omega) (.inl h.2.2.1) h.2.1
theorem Good.len [Dfr] {n:Tm} (h:Good n):n.row.length≤24:=by rw [Tm.zac];exact h.2.2.2.1
theorem zvx [Dfr] {n:Tm} (h:Good n) {mv:Mv} (hm:mv∈enL n.row):∃n':Tm,(zdc n.row mv).1=n'.row∧(zdc n.row mv).2.2=0∧Good n'∧cntW n'.row<cntW n.row∧zyw n.row mv=zmx (zdc n.row mv).2.1 n'.tr∧n'.size≤n.size∧
 (n.okB=true→n'.okB=true):=by
 obtain ⟨hz,hcnt,_,_⟩:=qao hm;have hs:=h.set;obtain ⟨c,u,e,hu,h1,h2⟩:=xjx hm;subst e;have hme:mv=((c.pos:Int),mv.2):=by rw [←h1]
 rw [hme] at h2;obtain ⟨n1,n2,n3,n4,_⟩:=yjd hs hu h2;have hpo:=n4 h.2.2.1;have hsm:=qju (how:=mv.2) hu h.2.2.2 n3;have e1:(zdc (c.fill u).row mv).1=(c.fill (u.mdT mv.2)).st.row:=by rw [hme];exact congrArg Prod.fst n1
 have hsz:=Tm.zbz (c.fill (u.mdT mv.2));have hg:Good (c.fill (u.mdT mv.2)).st:=⟨Tm.qjh n2,Tm.xkm _,Tm.qyl hpo,hsm⟩;refine ⟨(c.fill (u.mdT mv.2)).st,e1,hz,hg,by rw [←e1];exact hcnt,?_,by omega,fun hk=> ?_⟩
 ·unfold zyw;rw [e1,qjs hg.1 (by have:=hg.2.2.2.1;omega) hg.2.2.1 hg.2.2.2]
 ·have hw:=(qxo hu).1 h2;rw [ybj hs] at hw;exact (Tm.xkn _ n2 (.inl hpo) (Tm.qay hu c true (.inl h.2.2.1) hw hk).1).1
theorem xbd [Dfr] (l:List Nd):(List.range l.length).map (fun k=>l.getD k default)=l:=by
 apply List.ext_getElem
 ·simp
 ·intro i h1 h2;simp only [List.getElem_map,List.getElem_range,List.getD_eq_getElem?_getD,List.getElem?_eq_getElem h2,Option.getD_some]
theorem xfd [Dfr] {l:List Nd} {t:T} (ht:tree l=some t):(t.wts 0).length≤cntW l:=by
 obtain ⟨hok,hrow⟩:=zga.1 ht;have hlen:t.size=l.length:=by rw [hrow,T.zac]
 rw [zle l t 0 [] (by rw [List.drop_zero,List.append_nil];exact hrow),hlen,←List.range_eq_range'];have h1:((List.range l.length).filter fun k=>zdo (l.getD k default).1&& !qcm (t.path 0 k)).length≤((List.range l.length).filter fun k=>zdo (l.getD k default).1).length:=by
  rw [←List.countP_eq_length_filter,←List.countP_eq_length_filter];refine List.countP_mono_left fun k _ hk=> ?_
  rw [Bool.and_eq_true] at hk;exact hk.1
 refine Nat.le_trans h1 (Nat.le_of_eq ?_);unfold cntW
 conv=>rhs;rw [←xbd l,List.countP_map]
 rw [←List.countP_eq_length_filter];rfl
theorem yjz [Dfr] (l:List Nd):(enL l).length≤cntW l*2:=by
 by_cases hs:setL l
 ·obtain ⟨m,hm,_,hz,_,_,_,ht⟩:=qbm hs;rw [qmi ht hs];unfold mvsT;have h1:=zfx (A:=m.t.wts 0) (f:=fun k=>zic (l.getD k default).1 (k:Int) (qfg m.t k)) (k:=2) fun k _=>qri _ _ _
  have h2:=xfd ht;omega
 ·rw [ygg hs];simp
def fct:Nat→Nat
 |0=>1
 |k+1=>(k+1)*2*fct k
theorem qkd [Dfr]:∀k,1≤fct k
 |0=>Nat.le_refl _
 |k+1=>by have:=qkd k;unfold fct;exact Nat.mul_pos (by omega) this
theorem ylp [Dfr] {n:Tm} (h:Good n) (ho:n.zjb=false):canon cmpT ((enL n.row).flatMap (zyw n.row))=n.tr:=
 zyy ordT (zfj ordT _) (Tm.yls n) fun x=>(zaz ordT).trans (qyh h.set h.2.2.1 h.2.2.2 ho x)
theorem qoy [Dfr] {n:Tm} {k:Nat} (h:Good n) (hk:∀n':Tm,Good n'→cntW n'.row<cntW n.row→n'.tr.length≤k):((enL n.row).flatMap (zyw n.row)).length≤cntW n.row*2*k:=by refine Nat.le_trans (zfx (k:=k) fun mv hmv=> ?_) (Nat.mul_le_mul_right _ (yjz _));obtain ⟨n',e1,_,hg,hc,e2,_,_⟩:=zvx h hmv;rw [e2];unfold zmx;rw [List.length_map];exact hk n' hg hc
theorem yra [Dfr]:∀(k:Nat) (n:Tm),Good n→cntW n.row≤k→n.tr.length≤fct k
 |k,n,h,hc=>by
  cases ho:n.zjb with
  |true=>
   cases n<;>first|(cases ho;done)|skip
   rename_i s;have:=zai (c:=cmpT) [(([]:List ByteArray),s)];exact Nat.le_trans this (qkd k)
  |false=>
   rw [←ylp h ho];refine Nat.le_trans (zai _) ?_;cases k with
   |zero=>
    have e0:cntW n.row=0:=by omega
    have h1:=yjz n.row;have:enL n.row=[]:=List.length_eq_zero_iff.1 (by omega);rw [this];exact Nat.zero_le _
   |succ k=>refine Nat.le_trans (qoy (k:=fct k) h fun n' hg hlt=>yra k n' hg (by omega)) ?_;show cntW n.row*2*fct k≤(k+1)*2*fct k;exact Nat.mul_le_mul_right _ (Nat.mul_le_mul_right _ hc)
theorem ycw [Dfr] {n:Tm} (h:Good n) (hc:cntW n.row≤8):((enL n.row).flatMap (zyw n.row)).length≤11000000:=by
 refine Nat.le_trans (qoy (k:=fct 7) h fun n' hg hlt=>yra 7 n' hg (by omega)) ?_;have:cntW n.row*2*fct 7≤8*2*fct 7:=Nat.mul_le_mul_right _ (Nat.mul_le_mul_right _ hc);have e:8*2*fct 7≤11000000:=by decide
 omega
theorem qon [Dfr] {n:Tm} (h:Good n) (hc:cntW n.row≤8):n.tr.length≤11000000:=by
 have:=yra 8 n h hc;have e:fct 8≤11000000:=by decide
 omega
open Go Go.Sv Go.Proofs Go.Rd Go.RowKit
set_option maxRecDepth 100000
def ogF (F:Nat→Prop) (og:Option Nat) (b:Nat):Prop:=F b∨og=some b
def OwnO (F:Nat→Prop) (w:World) (e:TypeId) (u:Ty) (xs:List u.den) (v:Value):Option Nat→Prop
 |none=>xs=[]∧∃a,v= .slice a 0 0
 |some g=>OwnAt (ogF F (some g)) w e u xs g xs.length v
theorem qwh [Dfr] [zdv] {ty e tt:TypeId} {u:Ty} {i ie:TI} (hty:E.ti ty=some i) (hd:i.d= .slice e) (he:E.ti e=some ie) (hsz:ie.size=u.sz) {F:Nat→Prop} {w:World} {xs ys:List u.den} {v vx:Value} {og:Option Nat}
 (hF:∀b,F b→b<w.heap.size∧og≠some b) (hog:∀g,og=some g→g<w.heap.size) (hg:zdp E (ogF F og) w) (hown:OwnO F w e u xs v og) (hx:Cl (ogF F og) w (.slice e u) ys [vx]) (hroom:zae (xs.length+ys.length) ie.bytes=true):
 ∃v' w' og',(Builtin.append_ #[ty,ty] tt #[v,vx]).run Tryz.prog w= .ok v' w'∧OwnO F w' e u (xs++ys) v' og'∧Kept (fun b=>og=some b) w w'∧(∀g',og'=some g'→og=some g'∨w.heap.size≤g')∧∀g',og'=some g'→g'<w'.heap.size:=by
 let X:Ctx:={P:=Tryz.prog,E:=E,W:=w,G:=fun b=>og=some b,F0:=F,n:=0}
 let A:Fr:=⟨fun _=>none,fun m=>if m=1 then og.map (fun g=>(g,xs.length)) else none⟩
 have htg:∀m b l,A.tg m=some (b,l)→m=1∧og=some b∧l=xs.length:=fun m b l h=>by
  simp only [A] at h;split at h
  ·rename_i e1;cases og with
   |none=>cases h
   |some g=>simp only [Option.map_some,Option.some.injEq,Prod.mk.injEq] at h;exact ⟨e1,by rw [h.1],h.2.symm⟩
  ·cases h
 have hXF:X.F A=ogF F og:=funext fun b=>propext ⟨fun h=>by
  rcases h with h|⟨d,h⟩|⟨m,l,h⟩
  ·exact .inl h
  ·cases h
  ·exact .inr (htg m b l h).2.1,fun h=>by
  rcases h with h|h
  ·exact .inl h
  ·exact .inr (.inr ⟨1,xs.length,by simp [A,h]⟩)⟩
 have hi:Inv X A ⟨[],[]⟩ #[] w:=⟨rfl,Kept.refl _ _,by rw [hXF];exact hg,fun i=>trivial,fun d t c h=>(by simp [getB] at h),
  ⟨fun d b h=>(by cases h),fun m b l h=>⟨.inr (htg m b l h).2.1,hog b (htg m b l h).2.1⟩,fun d d' b h _=>(by cases h),fun m m' b l l' h h'=>(htg m b l h).1.trans (htg m' b l' h').1.symm,fun d m b l h _=>(by cases h),fun b h=>⟨(hF b h).1,(hF b h).2⟩⟩,fun z hz=>(by cases hz)⟩
 have hS:RC (X.F A) A w (.slice e u xs (.own 1)) v:=by
  rw [hXF];cases og with
  |none=>exact .inl ⟨rfl,hown.1,hown.2⟩
  |some g=>exact .inr ⟨g,xs.length,rfl,hown⟩
 have hX:RC (X.F A) A w (.slice e u ys .no) vx:=by rw [hXF];exact hx
 obtain ⟨v',w',hr,_,h2⟩:=qtf (X:=X) (tt:=tt) (g:=.own 1) (g':=.no) (l:=[1,2]) (t:=2) (tab.types.ti _ _ hty) hd (tab.types.ti _ _ he) hsz hi hS hX (by simp) hroom (by simp) (fun n h=>by cases h;simp);obtain ⟨A',hi',hrc⟩:=h2 (by simp);rcases hrc with ⟨_,hnil,ha⟩|⟨g',l',ht',hown'⟩
 ·exact ⟨v',w',none,hr,⟨hnil,ha⟩,hi'.kept,fun _ h=>(by cases h),fun _ h=>(by cases h)⟩
 ·have hmine:=hi'.good.tgm _ _ _ ht';refine ⟨v',w',some g',hr,?_,hi'.kept,fun g'' h=>(by
   cases h;rcases hmine.1 with h|h
   ·exact .inr h
   ·exact .inl h),fun g'' h=>(by cases h;exact hmine.2)⟩
  obtain ⟨hl,cap,cur,hv,hh,q1,q2,q3,q4⟩:=hown';refine ⟨rfl,cap,cur,hv,hh,q1,q2,q3,fun i x hx=> ?_⟩;obtain ⟨ds,hd,hj⟩:=q4 i x hx;refine ⟨ds,Cl.lift (fun b hb=> ?_) hd,hj⟩;rcases hb with hb|hb
  ·exact .inl hb
  ·cases hb;exact .inr (.inr ⟨2,l',ht'⟩)
theorem qvm [Dfr] [zdv] {ops:Array Oper} {rest:List Oper} {o:Oper} {a:Act} {Q:Exit→Act→World→Prop} {w:World} (hgd:o.guard=none) (s x:Operand) (ty:TypeId) (hop:o.op=Op.call {callee:=Callee.builtin Builtin.append,args:= #[s,x],argTypes:= #[ty,ty]})
 {e:TypeId} {u:Ty} {i ie:TI} (hty:E.ti ty=some i) (hd:i.d= .slice e) (he:E.ti e=some ie) (hsz:ie.size=u.sz) {F:Nat→Prop} {xs ys:List u.den} {v vx:Value} {og:Option Nat} (hs:a.eval s=v) (hx:a.eval x=vx)
 (hF:∀b,F b→b<w.heap.size∧og≠some b) (hog:∀g,og=some g→g<w.heap.size) (hg:zdp E (ogF F og) w) (hown:OwnO F w e u xs v og) (hcl:Cl (ogF F og) w (.slice e u) ys [vx]) (hroom:zae (xs.length+ys.length) ie.bytes=true)
 (hK:∀v' w' og',OwnO F w' e u (xs++ys) v' og'→Kept (fun b=>og=some b) w w'→(∀g',og'=some g'→og=some g'∨w.heap.size≤g')→(∀g',og'=some g'→g'<w'.heap.size)→wpList Tryz.prog ops Q rest (a.put o.dst v') w'):wpList Tryz.prog ops Q (o::rest) a w:=by
 refine wpList_plain hgd fun K hK'=> ?_
 obtain ⟨v',w',og',hrun,r1,r2,r3,r4⟩:=qwh (tt:=o.type) hty hd he hsz hF hog hg hown hcl hroom;unfold Oper.wp;simp [execOp,hop,resolve,invoke,builtin,hs,hx,hrun,Result.andThen];exact hK' _ _ (hK v' w' og' r1 r2 r3 r4)
theorem xeg [Dfr] {F:Nat→Prop} {w:World} {e:TypeId} {u:Ty} {xs:List u.den} {v:Value} {og:Option Nat} (h:OwnO F w e u xs v og) (hF:∀g,og=some g→¬F g):Cl F w (.slice e u) xs [v]:=by
 cases og with
 |none=>obtain ⟨rfl,a,rfl⟩:=h;rw [Cl];exact ⟨a,0,rfl,Nat.le_refl _,.inl rfl⟩
 |some g=>obtain ⟨_,cap,cur,rfl,hh,hc,hm,hs,hel⟩:=h;rw [Cl];refine ⟨_,cap,rfl,hc,.inr ⟨_,rfl,hF g rfl,fun i x hi=> ?_⟩⟩;obtain ⟨ds,hd,hj⟩:=hel i x hi;refine ⟨ds,Cl.lift (fun b hb=>.inl hb) hd,fun j u hu=> ?_⟩;have:=hj j u hu;rw [zhj,cell_of_block hh,Nat.zero_add];exact this
theorem qby [Dfr] {F:Nat→Prop} {w w':World} {e:TypeId} {u:Ty} {xs:List u.den} {v:Value} {og:Option Nat} (h:OwnO F w e u xs v og) (S:Step (ogF F og) (ogF F og) w w') (hb:∀g,og=some g→w'.heap[g]? =w.heap[g]?):OwnO F w' e u xs v og:=by
 cases og with
 |none=>exact h
 |some g=>exact OwnAt.step S (hb g rfl) h
theorem zbf [Dfr] {F:Nat→Prop} {G:Nat→Prop} {w w':World} (hk:Kept G w w') (hG:∀b,G b→F b):Step F F w w':=
 ⟨fun b hb hlt=>hk.block b hlt fun h=>hb (hG b h),fun b h=>.inl h⟩
abbrev TcY:Ty:=.pair (.slice 9 .str) (.int .i64)
abbrev MvY:Ty:=.pair (.int .i64) (.int .i64)
abbrev StY:Ty:=.slice 9 .str
theorem zcz [Dfr] {F:Nat→Prop} {w:World} {e:TypeId} {u:Ty} {xs:List u.den} {v:Value} (h:Cl F w (.slice e u) xs [v]):∃s c,v= .slice s xs.length c:=by rw [Cl] at h;obtain ⟨s,c,e,_⟩:=h;exact ⟨s,c,(List.cons.inj e).1⟩
section
variable {W:World} {F:Nat→Prop}
theorem zxu [Dfr] [zdv] {l:List Nd} {s:Int} {b:Bool} (h:zdx l=some (s,b)) {v:Value} (hF:∀b,F b→b<W.heap.size) (hg:zdp E F W) (hc:Cl F W (.slice 68 NdY) l [v]):
 Calls Tryz.prog 44 #[v] W fun e w'=>e= .returned (.tuple #[.int .i64 s,.bool b])∧Kept (fun _=>False) W w':=by
 refine (zix 44 l (s,b) (((qmr l).iff _).1 h) hF hg (vs:=[v]) (.cons hc .nil)).mono ?_;rintro e w' ⟨u,rfl,hk,T,hr,_,_⟩;have hr':RP (T.F F) T w' (.tup [.one (.int .i64 s),.one (.bool b)]) u:=hr;obtain ⟨vs,rfl,hu⟩:=hr';cases hu with
 |cons h0 hu=>cases hu with
  |cons h1 hu=>cases hu;cases h0;cases h1;exact ⟨rfl,hk⟩
theorem qim [Dfr] [zdv] {l:List Nd} {ms:List Mv} (h:zgt l=some ms) {v:Value} (hF:∀b,F b→b<W.heap.size) (hg:zdp E F W) (hc:Cl F W (.slice 68 NdY) l [v]):
 Calls Tryz.prog 28 #[v] W fun e w'=>∃s c,e= .returned (.slice s ms.length c)∧Kept (fun _=>False) W w'∧Cl F w' (.slice 71 MvY) ms [.slice s ms.length c]:=by
 refine (zix 28 l ms (((qmy l).iff _).1 h) hF hg (vs:=[v]) (.cons hc .nil)).mono ?_;rintro e w' ⟨u,rfl,hk,T,hr,_,hn⟩;obtain ⟨g,hg2,hr'⟩:∃g:Tag,g≠.nil∧RP (T.F F) T w' (.sv (.one (.slice 71 MvY ms g))) u:=by first|exact ⟨.no,(by simp),hr⟩|exact ⟨.own (zbp 0 0 0),(by simp),hr⟩
 have hcl:Cl F w' (.slice 71 MvY) ms [u]:=qpz hn hg2 hr';obtain ⟨s,c,rfl⟩:=zcz hcl;exact ⟨s,c,rfl,hk,hcl⟩
theorem qwi [Dfr] [zdv] {l l':List Nd} {m:Mv} {nm:ByteArray} {z:Int} (h:zqs l m=some (l',nm,z)) {v:Value} (hF:∀b,F b→b<W.heap.size) (hg:zdp E F W) (hc:Cl F W (.slice 68 NdY) l [v]):
 Calls Tryz.prog 41 #[v,.agg #[.int .i64 m.1,.int .i64 m.2]] W fun e w'=>∃s c,e= .returned (.tuple #[.slice s l'.length c,.string nm,.int .i64 z])∧Kept (fun _=>False) W w'∧Cl F w' (.slice 68 NdY) l' [.slice s l'.length c]:=by
 refine (zix 41 (l,m) (l',nm,z) (((qyj l m).iff _).1 h) hF hg (vs:=[v,.agg #[.int .i64 m.1,.int .i64 m.2]]) (.cons hc (.cons ⟨[.int .i64 m.1,.int .i64 m.2],rfl,.cons rfl (.cons rfl .nil)⟩ .nil))).mono ?_;rintro e w' ⟨u,rfl,hk,T,hr,_,hn⟩;obtain ⟨g,hg2,hr'⟩:∃g:Tag,g≠.nil∧RP (T.F F) T w' (.tup [.one (.slice 68 NdY l' g),.one (.str nm),.one (.int .i64 z)]) u:=by first|exact ⟨.no,(by simp),hr⟩|exact ⟨.own (zbp 0 0 0),(by simp),hr⟩
 obtain ⟨vs,rfl,hu⟩:=hr';cases hu with
 |cons h0 hu=>cases hu with
  |cons h1 hu=>cases hu with
   |cons h2 hu=>cases hu;cases h1;cases h2;have hcl:=qpz hn hg2 h0;obtain ⟨s,c,rfl⟩:=zcz hcl;exact ⟨s,c,rfl,hk,hcl⟩
theorem ynl [Dfr] [zdv] {p q r:Tc} (h:zul p q=some r) {va vb:Value} (hF:∀b,F b→b<W.heap.size) (hg:zdp E F W) (ha:Cl F W StY p.1 [va]) (hb:Cl F W StY q.1 [vb]):
 Calls Tryz.prog 85 #[.agg #[va,.int .i64 p.2],.agg #[vb,.int .i64 q.2]] W fun e w'=>∃s c,e= .returned (.agg #[.slice s r.1.length c,.int .i64 r.2])∧Kept (fun _=>False) W w'∧Cl F w' StY r.1 [.slice s r.1.length c]:=by
 refine (zix 85 (p,q) r (((qtn p q).iff _).1 h) hF hg (vs:=[.agg #[va,.int .i64 p.2],.agg #[vb,.int .i64 q.2]]) (.cons ⟨[va,.int .i64 p.2],rfl,.cons ha (.cons rfl .nil)⟩ (.cons ⟨[vb,.int .i64 q.2],rfl,.cons hb (.cons rfl .nil)⟩ .nil))).mono ?_;rintro e w' ⟨u,rfl,hk,T,hr,_,hn⟩;obtain ⟨g,hg2,hr'⟩:∃g:Tag,g≠.nil∧RP (T.F F) T w' (.sv (.agg [.slice 9 .str r.1 g,.int .i64 r.2])) u:=by first|exact ⟨.no,(by simp),hr⟩|exact ⟨.own (zbp 0 0 0),(by simp),hr⟩
 obtain ⟨vs,rfl,hu⟩:=hr';cases hu with
 |cons h0 hu=>cases hu with
  |cons h1 hu=>cases hu;cases h1;have hcl:=qpz hn hg2 h0;obtain ⟨s,c,rfl⟩:=zcz hcl;exact ⟨s,c,rfl,hk,hcl⟩
theorem ydh [Dfr] [zdv] {l r:List Tc} (h:zum l=some r) {v:Value} (hF:∀b,F b→b<W.heap.size) (hg:zdp E F W) (hc:Cl F W (.slice 33 TcY) l [v]):
 Calls Tryz.prog 48 #[v] W fun e w'=>∃s c,e= .returned (.slice s r.length c)∧Kept (fun _=>False) W w'∧Cl F w' (.slice 33 TcY) r [.slice s r.length c]:=by
 refine (zix 48 l r (((qxu l).iff _).1 h) hF hg (vs:=[v]) (.cons hc .nil)).mono ?_;rintro e w' ⟨u,rfl,hk,T,hr,_,hn⟩;obtain ⟨g,hg2,hr'⟩:∃g:Tag,g≠.nil∧RP (T.F F) T w' (.sv (.one (.slice 33 TcY r g))) u:=by first|exact ⟨.no,(by simp),hr⟩|exact ⟨.own (zbp 0 0 0),(by simp),hr⟩
 have hcl:Cl F w' (.slice 33 TcY) r [u]:=qpz hn hg2 hr';obtain ⟨s,c,rfl⟩:=zcz hcl;exact ⟨s,c,rfl,hk,hcl⟩
theorem yfz [Dfr] [zdv] {l:List Tc} {t:Tc} {b:Bool} (h:zun l t=some b) {v vt:Value} (hF:∀b,F b→b<W.heap.size) (hg:zdp E F W) (hc:Cl F W (.slice 33 TcY) l [v]) (ht:Cl F W StY t.1 [vt]):
 Calls Tryz.prog 33 #[v,.agg #[vt,.int .i64 t.2]] W fun e w'=>e= .returned (.bool b)∧Kept (fun _=>False) W w':=by
 refine (zix 33 (l,t) b (((qxw l t).iff _).1 h) hF hg (vs:=[v,.agg #[vt,.int .i64 t.2]]) (.cons hc (.cons ⟨[vt,.int .i64 t.2],rfl,.cons ht (.cons rfl .nil)⟩ .nil))).mono ?_;rintro e w' ⟨u,rfl,hk,T,hr,_,hn⟩;cases (show u= .bool b from hr);exact ⟨rfl,hk⟩
theorem qfp [Dfr] [zdv] {l:List Nd} {z:Int} (h:qbn l=some z) {v:Value} (hF:∀b,F b→b<W.heap.size) (hg:zdp E F W) (hc:Cl F W (.slice 68 NdY) l [v]):
 Calls Tryz.prog 47 #[v] W fun e w'=>e= .returned (.int .i64 z)∧Kept (fun _=>False) W w':=by
 refine (zix 47 l z (((qua l).iff _).1 h) hF hg (vs:=[v]) (.cons hc .nil)).mono ?_;rintro e w' ⟨u,rfl,hk,T,hr,_,hn⟩;cases (show u= .int .i64 z from hr);exact ⟨rfl,hk⟩
theorem yog [Dfr] [zdv] {t r:Tc} {nm:ByteArray} {b:Bool} (h:qgx t nm=some (r,b)) {vt:Value} (hF:∀b,F b→b<W.heap.size) (hg:zdp E F W) (ht:Cl F W StY t.1 [vt]):
 Calls Tryz.prog 52 #[.agg #[vt,.int .i64 t.2],.string nm] W fun e w'=>∃s c,e= .returned (.tuple #[.agg #[.slice s r.1.length c,.int .i64 r.2],.bool b])∧Kept (fun _=>False) W w'∧Cl F w' StY r.1 [.slice s r.1.length c]:=by
 refine (zix 52 (t,nm) (r,b) (((qza t nm).iff _).1 h) hF hg (vs:=[.agg #[vt,.int .i64 t.2],.string nm]) (.cons ⟨[vt,.int .i64 t.2],rfl,.cons ht (.cons rfl .nil)⟩ (.cons rfl .nil))).mono ?_;rintro e w' ⟨u,rfl,hk,T,hr,_,hn⟩;obtain ⟨g,hg2,hr'⟩:∃g:Tag,g≠.nil∧RP (T.F F) T w' (.tup [.agg [.slice 9 .str r.1 g,.int .i64 r.2],.one (.bool b)]) u:=by first|exact ⟨.no,(by simp),hr⟩|exact ⟨.own (zbp 0 0 0),(by simp),hr⟩
 obtain ⟨vs,rfl,hu⟩:=hr';cases hu with
 |cons h0 hu=>cases hu with
  |cons h1 hu=>
   cases hu;cases h1;obtain ⟨ws,rfl,hw⟩:=h0;cases hw with
   |cons k0 hw=>cases hw with
    |cons k1 hw=>cases hw;cases k1;have hcl:=qpz hn hg2 k0;obtain ⟨s,c,rfl⟩:=zcz hcl;exact ⟨s,c,rfl,hk,hcl⟩
end
end Go.Proofs.YtjolkdjkhekbnaaGreatDoor.Sv
