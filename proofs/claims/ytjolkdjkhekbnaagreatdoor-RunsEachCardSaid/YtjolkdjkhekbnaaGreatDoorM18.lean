/- What was begun never comes to a stop ahead of its end: no block's inside gives way. Plain Lean, no program in sight. -/
import Derived.Test.YtjolkdjkhekbnaaGreatDoorM17
namespace Go.Rd
open Go Go.Sv
namespace Tm
def ngv:Tm→Bool
 |over s=>decide (s≠3)
 |fin s _=>decide (s≠3)
 |seq a _=>a.ngv
 |hand a _=>a.ngv
 |going a _=>a.ngv
 |stack a _=>a.ngv
 |par a b=>a.bang||b.bang||(a.ngv&&b.ngv)
 |_=>true
def okB:Tm→Bool
 |block a=>a.ngv&&a.okB
 |seq a _=>a.okB
 |hand a _=>a.okB
 |going a _=>a.okB
 |stack a _=>a.okB
 |par a b=>a.okB&&b.okB
 |_=>true
theorem ztd:∀m:Tm,(m.pl=true→m.okB=true∧m.ngv=true)∧(m.pa=true→m.okB=true∧m.ngv=true)
 |act s|skip|throw|yield=>⟨fun _=>⟨rfl,rfl⟩,fun _=>⟨rfl,rfl⟩⟩
 |over s|fin s a=>⟨fun h=>by simp [pl] at h,fun h=>by simp [pa] at h⟩
 |alt a b|pair a b=>⟨fun _=>⟨rfl,rfl⟩,fun _=>⟨rfl,rfl⟩⟩
 |going a b|stack a b=>⟨fun h=>by simp [pl] at h,fun h=>by simp [pa] at h⟩
 |seq a b=>⟨fun h=>by simp only [pl,Bool.and_eq_true] at h;exact (ztd a).1 h.1,fun h=>by simp only [pa,Bool.and_eq_true] at h;exact (ztd a).2 h.1⟩
 |hand a b=>⟨fun h=>by simp only [pl,Bool.and_eq_true] at h;exact (ztd a).1 h.1,fun h=>by simp [pa] at h⟩
 |par a b=>⟨fun h=>by
  simp only [pl,Bool.and_eq_true] at h
  obtain ⟨h1,h2⟩:=(ztd a).1 h.1
  obtain ⟨h3,h4⟩:=(ztd b).1 h.2
  simp only [okB,ngv,h1,h2,h3,h4,Bool.and_self,Bool.or_true,and_self],fun h=>by
  simp only [pa,Bool.and_eq_true] at h
  obtain ⟨h1,h2⟩:=(ztd a).2 h.1
  obtain ⟨h3,h4⟩:=(ztd b).2 h.2
  simp only [okB,ngv,h1,h2,h3,h4,Bool.and_self,Bool.or_true,and_self]⟩
 |block a=>⟨fun h=>by
  simp only [pl] at h
  obtain ⟨h1,h2⟩:=(ztd a).2 h
  simp only [okB,ngv,h1,h2,Bool.and_self,and_self],fun h=>by simp [pa] at h⟩
theorem qwv {x c:Tm} (h:x.bang=true):(zhl x c).bang=true:=by
 cases x<;>first|exact h|skip
theorem bs2 {s z:Int} (hs:zlw s=true) (hz:zlw z=true) (h:s=2∨z=2):bs s z=2:=by
 unfold bs
 rw [hs,hz]
 simp only [Bool.and_self,if_true]
 rw [if_pos h]
theorem yhy:∀m:Tm,m.fine→m.bang=true→m.st.bang=true:=by
 intro m
 induction m with
 |over s=>intro _ h;rw [zfb];exact h
 |fin s a _=>intro _ h;rw [zmp];exact h
 |seq a b iha _ =>
  intro hf h
  have ih:=iha hf.1 h
  rw [zsn]
  generalize a.st=x at ih
  cases x<;>simp only [seq']<;>first|exact ih|skip
  ·rename_i s
   have:s=2:=of_decide_eq_true ih
   rw [if_neg (by omega)];exact ih
  ·rename_i s c
   have:s=2:=of_decide_eq_true ih
   rw [if_neg (by omega)];exact ih
 |going a b iha _ =>
  intro hf h
  have ih:=iha hf.1 h
  rw [zkj]
  generalize a.st=x at ih
  cases x<;>simp only [zvu]<;>first|exact ih|skip
  ·rename_i s
   have:s=2:=of_decide_eq_true ih
   rw [if_neg (by omega)];exact ih
 |stack a b iha _ =>
  intro hf h
  rw [zix]
  exact qwv (iha hf.1 h)
 |par a b iha ihb =>
  intro hf h
  have fa:=qaj hf.1
  have fb:=qaj hf.2
  have h':a.st.bang=true∨b.st.bang=true:=by
   simp only [bang,Bool.or_eq_true] at h
   exact h.imp (iha hf.1) (ihb hf.2)
  rw [zln]
  generalize a.st=x at h' fa
  generalize b.st=y at h' fb
  rcases zkd x y with ⟨s,z,rfl,rfl,e⟩|⟨s,c,z,d,rfl,rfl,e⟩|e
  ·rw [e]
   refine decide_eq_true (bs2 fa fb ?_)
   rcases h' with h'|h'
   ·exact .inl (of_decide_eq_true h')
   ·exact .inr (of_decide_eq_true h')
  ·rw [e]
   refine decide_eq_true (bs2 fa.1 fb.1 ?_)
   rcases h' with h'|h'
   ·exact .inl (of_decide_eq_true h')
   ·exact .inr (of_decide_eq_true h')
  ·rw [e]
   simp only [bang,Bool.or_eq_true];exact h'
 |_=>intro _ h;simp [bang] at h
theorem yvq {s z:Int} (hs:s≠3) (hz:z≠3):bs s z≠3:=by
 unfold bs
 split
 ·split
  ·omega
  ·split<;>omega
 ·omega
theorem yhq {s z:Int} (h:s=2∨z=2):bs s z≠3:=by
 unfold bs
 simp only [if_pos h]
 split
 ·decide
 ·decide
theorem ywd:∀m:Tm,m.fine→(m.po=true∨m.qo=true)→m.okB=true→m.st.okB=true∧(m.ngv=true→m.st.ngv=true):=by
 intro m
 induction m using zug with
 |h m ih =>
  intro hf ho hk
  have hstk:∀x c:Tm,x.okB=true→(zhl x c).okB=true:=fun x c h=>by
   cases x<;>first|exact h|rfl
  have hstn:∀x c:Tm,x.ngv=true→(zhl x c).ngv=true:=fun x c h=>by
   cases x<;>exact h
  cases m with
  |act s=>rw [zvj];exact ⟨rfl,fun _=>rfl⟩
  |skip=>rw [zqu];exact ⟨rfl,fun _=>rfl⟩
  |throw=>rw [znv];exact ⟨rfl,fun _=>rfl⟩
  |yield=>rw [ziw];exact ⟨rfl,fun _=>rfl⟩
  |over s=>rw [zfb];exact ⟨rfl,fun h=>h⟩
  |alt a b=>rw [qbr];exact ⟨rfl,fun _=>rfl⟩
  |pair a b=>rw [zso];exact ⟨rfl,fun _=>rfl⟩
  |fin s a=>rw [zmp];exact ⟨rfl,fun h=>h⟩
  |hand a b =>
   have hp:a.po=true∧b.pl=true:=by
    rcases ho with h|h
    ·simpa only [po,Bool.and_eq_true] using h
    ·simp [qo] at h
   obtain ⟨a1,a2⟩:=ih a (by rw [zba];omega) hf.1 (.inl hp.1) hk
   obtain ⟨k1,k2⟩:=(ztd b).1 hp.2
   obtain ⟨b1,b2⟩:=ih b (by rw [zba];omega) hf.2 (.inl (zga hp.2)) k1
   have a3:(hand a b).ngv=true→a.st.ngv=true:=a2
   rw [zqv]
   generalize a.st=x at a1 a3
   cases x<;>simp only [hand']<;>first|exact ⟨a1,a3⟩|skip
   split
   ·exact ⟨b1,fun _=>b2 k2⟩
   ·exact ⟨rfl,a3⟩
  |seq a b =>
   have hp:(a.po=true∨a.qo=true)∧(b.pl=true∨b.pa=true):=by
    rcases ho with h|h
    ·simp only [po,Bool.and_eq_true] at h;exact ⟨.inl h.1,.inl h.2⟩
    ·simp only [qo,Bool.and_eq_true] at h;exact ⟨.inr h.1,.inr h.2⟩
   obtain ⟨a1,a2⟩:=ih a (by rw [zaw];omega) hf.1 hp.1 hk
   obtain ⟨k1,k2⟩:b.okB=true∧b.ngv=true:=hp.2.elim (ztd b).1 (ztd b).2
   obtain ⟨b1,b2⟩:=ih b (by rw [zaw];omega) hf.2 (hp.2.imp zga zrn) k1
   have a3:(seq a b).ngv=true→a.st.ngv=true:=a2
   rw [zsn]
   generalize a.st=x at a1 a3
   cases x<;>simp only [seq']<;>first|exact ⟨a1,a3⟩|skip
   ·split
    ·exact ⟨b1,fun _=>b2 k2⟩
    ·exact ⟨rfl,a3⟩
   ·split
    ·exact ⟨hstk _ _ b1,fun _=>hstn _ _ (b2 k2)⟩
    ·exact ⟨rfl,a3⟩
  |stack a c =>
   have hp:a.qo=true:=by
    rcases ho with h|h
    ·simp [po] at h
    ·simp only [qo,Bool.and_eq_true] at h;exact h.1
   obtain ⟨a1,a2⟩:=ih a (by rw [zdh];omega) hf.1 (.inr hp) hk
   rw [zix]
   exact ⟨hstk _ _ a1,fun h=>hstn _ _ (a2 h)⟩
  |going a b =>
   have hp:a.po=true:=by
    rcases ho with h|h
    ·simp [po] at h
    ·simp only [qo,Bool.and_eq_true] at h;exact h.1
   obtain ⟨a1,a2⟩:=ih a (by rw [zce];omega) hf.1 (.inl hp) hk
   have a3:(going a b).ngv=true→a.st.ngv=true:=a2
   rw [zkj]
   generalize a.st=x at a1 a3
   cases x<;>simp only [zvu]<;>first|exact ⟨a1,a3⟩|skip
   split
   ·exact ⟨rfl,fun _=>rfl⟩
   ·exact ⟨rfl,a3⟩
  |par a b =>
   have hp:(a.po=true∨a.qo=true)∧(b.po=true∨b.qo=true):=by
    rcases ho with h|h
    ·simp only [po,Bool.and_eq_true] at h;exact ⟨.inl h.1,.inl h.2⟩
    ·simp only [qo,Bool.and_eq_true] at h;exact ⟨.inr h.1,.inr h.2⟩
   have hk':a.okB=true∧b.okB=true:=by simpa only [okB,Bool.and_eq_true] using hk
   obtain ⟨a1,a2⟩:=ih a (by rw [zbq];omega) hf.1 hp.1 hk'.1
   obtain ⟨b1,b2⟩:=ih b (by rw [zbq];omega) hf.2 hp.2 hk'.2
   have n3:(par a b).ngv=true→(a.st.bang=true∨b.st.bang=true)∨(a.st.ngv=true∧b.st.ngv=true):=fun h=>by
    simp only [ngv,Bool.or_eq_true,Bool.and_eq_true] at h
    rcases h with (h|h)|h
    ·exact .inl (.inl (yhy a hf.1 h))
    ·exact .inl (.inr (yhy b hf.2 h))
    ·exact .inr ⟨a2 h.1,b2 h.2⟩
   rw [zln]
   generalize a.st=x at a1 n3
   generalize b.st=y at b1 n3
   have key:∀s z:Int,(x.bang=decide (s=2))→(y.bang=decide (z=2))→(x.ngv=decide (s≠3))→(y.ngv=decide (z≠3))→(par a b).ngv=true→bs s z≠3:=fun s z e1 e2 e3 e4 h=>by
    rcases n3 h with (h|h)|⟨h,h'⟩
    ·exact yhq (.inl (of_decide_eq_true (e1▸h)))
    ·exact yhq (.inr (of_decide_eq_true (e2▸h)))
    ·exact yvq (of_decide_eq_true (e3▸h)) (of_decide_eq_true (e4▸h'))
   rcases zkd x y with ⟨s,z,rfl,rfl,e⟩|⟨s,c,z,d,rfl,rfl,e⟩|e
   ·rw [e];exact ⟨rfl,fun h=>decide_eq_true (key s z rfl rfl rfl rfl h)⟩
   ·rw [e];exact ⟨rfl,fun h=>decide_eq_true (key s z rfl rfl rfl rfl h)⟩
   ·rw [e]
    refine ⟨by simp only [okB,a1,b1,Bool.and_self],fun h=> ?_⟩
    simp only [ngv,Bool.or_eq_true,Bool.and_eq_true]
    exact n3 h
  |block a =>
   have hp:a.qo=true:=by
    rcases ho with h|h
    ·exact h
    ·simp [qo] at h
   have hk':a.ngv=true∧a.okB=true:=by simpa only [okB,Bool.and_eq_true] using hk
   obtain ⟨a1,a2⟩:=ih a (by rw [zam];omega) hf (.inr hp) hk'.2
   have a3:=a2 hk'.1
   have hsz:=zdk a
   have hfi:=qaj (m:=a) hf
   have hqo:=yct hp
   rw [zkk]
   generalize a.st=x at a1 a3 hsz hfi hqo
   have plain:(block x).okB=true∧((block a).ngv=true→(block x).ngv=true):=⟨by simp only [okB,a1,a3,Bool.and_self],fun _=>rfl⟩
   cases x<;>simp only [block']<;>first|exact plain|skip
   rename_i s c
   simp only [qo] at hqo
   split
   ·exact ⟨rfl,fun _=>rfl⟩
   ·split
    ·obtain ⟨k1,k2⟩:=(ztd c).1 hqo
     obtain ⟨c1,c2⟩:=ih c (by rw [zam];rw [zcl] at hsz;omega) hfi.2 (.inl (zga hqo)) k1
     exact ⟨c1,fun _=>c2 k2⟩
    ·exact plain
theorem ztq {u:Tm} {how:Int} (hu:u.Wt):∀(c:Cx) (F:Bool),((c.fill u).po=true∨(c.fill u).qo=true)→u.wayT how (c.fr F)→(c.fill u).okB=true→
 (c.fill (u.mdT how)).okB=true∧(F=false→(c.fill u).ngv=true→(c.fill (u.mdT how)).ngv=true)∧((c.fill u).bang=true→(c.fill (u.mdT how)).bang=true)
 | .hole,F,ho,hw,hk=>by
   have hb:u.bang=true→(u.mdT how).bang=true:=fun h=>by
    rcases hu with ⟨s,rfl⟩|⟨a,b,rfl⟩|rfl|⟨a,b,rfl⟩<;>simp [bang] at h
   have key:(u.mdT how).okB=true∧(F=false→(u.mdT how).ngv=true):=by
    rcases hu with ⟨s,rfl⟩|⟨a,b,rfl⟩|rfl|⟨a,b,rfl⟩
    ·exact ⟨rfl,fun _=>rfl⟩
    ·have hab:(a.okB=true∧a.ngv=true)∧(b.okB=true∧b.ngv=true):=by
      rcases ho with h|h
      ·have h':(a.pl&&b.pl)=true:=h
       rw [Bool.and_eq_true] at h'
       exact ⟨(ztd a).1 h'.1,(ztd b).1 h'.2⟩
      ·have h':(a.pa&&b.pa)=true:=h
       rw [Bool.and_eq_true] at h'
       exact ⟨(ztd a).2 h'.1,(ztd b).2 h'.2⟩
     show (if how=2 then a else b).okB=true∧(F=false→(if how=2 then a else b).ngv=true)
     split
     ·exact ⟨hab.1.1,fun _=>hab.1.2⟩
     ·exact ⟨hab.2.1,fun _=>hab.2.2⟩
    ·rcases hw with rfl|⟨rfl,h⟩
     ·exact ⟨rfl,fun _=>rfl⟩
     ·have h:F=true:=h
      exact ⟨rfl,fun h2=>by rw [h] at h2;cases h2⟩
    ·have hab:a.okB=true∧a.ngv=true:=by
      rcases ho with h|h
      ·have h':false=true:=h
       cases h'
      ·have h':(a.pl&&b.pl)=true:=h
       rw [Bool.and_eq_true] at h'
       exact (ztd a).1 h'.1
     rcases hw with rfl|⟨rfl,h⟩
     ·exact ⟨hab.1,fun _=>hab.2⟩
     ·have h:F=true:=h
      exact ⟨rfl,fun h2=>by rw [h] at h2;cases h2⟩
   exact ⟨key.1,fun h _=>key.2 h,hb⟩
 | .seq c b,F,ho,hw,hk=>ztq hu c F (ho.imp (fun h=>(Bool.and_eq_true _ _▸(show ((c.fill u).po&&b.pl)=true from h):_∧_).1) (fun h=>(Bool.and_eq_true _ _▸(show ((c.fill u).qo&&b.pa)=true from h):_∧_).1)) hw hk
 | .hand c b,F,ho,hw,hk=>by
   have ho':(c.fill u).po=true:=by
    rcases ho with h|h
    ·have h':((c.fill u).po&&b.pl)=true:=h
     rw [Bool.and_eq_true] at h';exact h'.1
    ·have h':false=true:=h
     cases h'
   obtain ⟨h1,h2,_⟩:=ztq hu c F (.inl ho') hw hk
   exact ⟨h1,h2,fun h=>by have h':false=true:=h;cases h'⟩
 | .going c b,F,ho,hw,hk=>by
   have ho':(c.fill u).po=true:=by
    rcases ho with h|h
    ·have h':false=true:=h
     cases h'
    ·have h':((c.fill u).po&&b.pl)=true:=h
     rw [Bool.and_eq_true] at h';exact h'.1
   exact ztq hu c F (.inl ho') hw hk
 | .stack c b,F,ho,hw,hk=>by
   have ho':(c.fill u).qo=true:=by
    rcases ho with h|h
    ·have h':false=true:=h
     cases h'
    ·have h':((c.fill u).qo&&b.pl)=true:=h
     rw [Bool.and_eq_true] at h';exact h'.1
   exact ztq hu c F (.inr ho') hw hk
 | .block c,F,ho,hw,hk=>by
   have ho':(c.fill u).qo=true:=by
    rcases ho with h|h
    ·exact h
    ·have h':false=true:=h
     cases h'
   have hk':((c.fill u).ngv&&(c.fill u).okB)=true:=hk
   rw [Bool.and_eq_true] at hk'
   obtain ⟨h1,h2,h3⟩:=ztq hu c false (.inr ho') hw hk'.2
   refine ⟨?_,fun _ _=>rfl,fun h=>by have h':false=true:=h;cases h'⟩
   show ((c.fill (u.mdT how)).ngv&&(c.fill (u.mdT how)).okB)=true
   rw [h1,h2 rfl hk'.1];rfl
 | .parL c b,F,ho,hw,hk=>by
   have ho':(c.fill u).po=true∨(c.fill u).qo=true:=by
    rcases ho with h|h
    ·have h':((c.fill u).po&&b.po)=true:=h
     rw [Bool.and_eq_true] at h';exact .inl h'.1
    ·have h':((c.fill u).qo&&b.qo)=true:=h
     rw [Bool.and_eq_true] at h';exact .inr h'.1
   have hk':((c.fill u).okB&&b.okB)=true:=hk
   rw [Bool.and_eq_true] at hk'
   obtain ⟨h1,h2,h3⟩:=ztq hu c (F||b.bang) ho' hw hk'.1
   refine ⟨?_,fun hF hn=> ?_,fun h=> ?_⟩
   ·show ((c.fill (u.mdT how)).okB&&b.okB)=true
    rw [h1,hk'.2];rfl
   ·have hn':((c.fill u).bang||b.bang||((c.fill u).ngv&&b.ngv))=true:=hn
    show ((c.fill (u.mdT how)).bang||b.bang||((c.fill (u.mdT how)).ngv&&b.ngv))=true
    cases hb:b.bang with
    |true=>simp
    |false =>
     rw [hb] at h2 hn'
     simp only [Bool.or_false,Bool.or_eq_true,Bool.and_eq_true] at hn' ⊢
     rcases hn' with h|h
     ·exact .inl (h3 h)
     ·exact .inr ⟨h2 (by rw [hF];rfl) h.1,h.2⟩
   ·have h':((c.fill u).bang||b.bang)=true:=h
    show ((c.fill (u.mdT how)).bang||b.bang)=true
    rw [Bool.or_eq_true] at h' ⊢
    exact h'.imp h3 id
 | .parR a c,F,ho,hw,hk=>by
   have ho':(c.fill u).po=true∨(c.fill u).qo=true:=by
    rcases ho with h|h
    ·have h':(a.po&&(c.fill u).po)=true:=h
     rw [Bool.and_eq_true] at h';exact .inl h'.2
    ·have h':(a.qo&&(c.fill u).qo)=true:=h
     rw [Bool.and_eq_true] at h';exact .inr h'.2
   have hk':(a.okB&&(c.fill u).okB)=true:=hk
   rw [Bool.and_eq_true] at hk'
   obtain ⟨h1,h2,h3⟩:=ztq hu c (F||a.bang) ho' hw hk'.2
   refine ⟨?_,fun hF hn=> ?_,fun h=> ?_⟩
   ·show (a.okB&&(c.fill (u.mdT how)).okB)=true
    rw [h1,hk'.1];rfl
   ·have hn':(a.bang||(c.fill u).bang||(a.ngv&&(c.fill u).ngv))=true:=hn
    show (a.bang||(c.fill (u.mdT how)).bang||(a.ngv&&(c.fill (u.mdT how)).ngv))=true
    cases hb:a.bang with
    |true=>simp
    |false =>
     rw [hb] at h2 hn'
     simp only [Bool.false_or,Bool.or_eq_true,Bool.and_eq_true] at hn' ⊢
     rcases hn' with h|h
     ·exact .inl (h3 h)
     ·exact .inr ⟨h.1,h2 (by rw [hF];rfl) h.2⟩
   ·have h':(a.bang||(c.fill u).bang)=true:=h
    show (a.bang||(c.fill (u.mdT how)).bang)=true
    rw [Bool.or_eq_true] at h' ⊢
    exact h'.imp id h3
end Tm
end Go.Rd
