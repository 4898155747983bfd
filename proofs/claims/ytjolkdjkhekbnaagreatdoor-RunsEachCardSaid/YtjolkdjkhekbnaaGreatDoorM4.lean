/- What comes of what goes on of itself: settling. Plain Lean, no program in sight. -/
import Derived.Test.YtjolkdjkhekbnaaGreatDoorM3
namespace Go.Rd
open Go Go.Sv
namespace Tm
def zhl (x c:Tm):Tm:=match x with
 |fin s d=>fin s (seq d c)
 |y=>stack y c
def par' (x y:Tm):Tm:=match x,y with
 |over s,over z=>over (bs s z)
 |fin s c,fin z d=>fin (bs s z) (par c d)
 |x,y=>par x y
theorem zkd (x y:Tm):(∃s z,x=over s∧y=over z∧par' x y=over (bs s z))∨(∃s c z d,x=fin s c∧y=fin z d∧par' x y=fin (bs s z) (par c d))∨par' x y=par x y:=by
 unfold par'
 split
 ·exact .inl ⟨_,_,rfl,rfl,rfl⟩
 ·exact .inr (.inl ⟨_,_,_,_,rfl,rfl,rfl⟩)
 ·exact .inr (.inr rfl)
theorem andT {a b:Bool} (h:a=true) (k:b=true):(a&&b)=true:=by rw [h,k];rfl
theorem qfa (x c:Tm):(zhl x c).size=x.size+c.size+1:=by
 cases x<;>simp only [zhl,zcl,zaw,zdh];omega
theorem yez (x y:Tm):(par' x y).size≤x.size+y.size+1:=by
 unfold par'
 split
 ·simp only [zyc];omega
 ·simp only [zcl,zbq];omega
 ·simp only [zbq];omega
def stS (f:Tm→Tm):Tm→Tm
 |skip=>over 1
 |throw=>over 2
 |hand a b=>(match f a with
  |over s=>if s=2 then f b else over s
  |y=>hand y b)
 |seq a b=>(match f a with
  |over s=>if s=1 then f b else over s
  |fin s c=>if s=1 then zhl (f b) c else fin s c
  |y=>seq y b)
 |stack a c=>zhl (f a) c
 |going a b=>(match f a with
  |over s=>if s=1 then fin 1 b else fin s skip
  |y=>going y b)
 |par a b=>par' (f a) (f b)
 |block a=>(match f a with
  |fin s c=>if s=1 then over 1 else if s=2 then f c else block (fin s c)
  |y=>block y)
 |m=>m
def stF:Nat→Tm→Tm
 |0,m=>m
 |n+1,m=>stS (stF n) m
theorem ykc {f:Tm→Tm} (hf:∀x,(f x).size≤x.size):∀m,(stS f m).size≤m.size:=by
 intro m
 cases m with
 |skip=>exact Nat.le_refl _
 |throw=>exact Nat.le_refl _
 |hand a b =>
  have h1:=hf a
  have h2:=hf b
  simp only [stS]
  split
  ·split
   ·rw [zba];omega
   ·rw [zba,zyc];omega
  ·rw [zba,zba];omega
 |seq a b =>
  have h1:=hf a
  have h2:=hf b
  simp only [stS]
  split
  ·split
   ·rw [zaw];omega
   ·rw [zaw,zyc];omega
  ·rename_i s c e
   rw [e,zcl] at h1
   split
   ·rw [qfa,zaw];omega
   ·rw [zcl,zaw];omega
  ·rw [zaw,zaw];omega
 |stack a c =>
  have h1:=hf a
  simp only [stS]
  rw [qfa,zdh];omega
 |going a b =>
  have h1:=hf a
  have h2:=b.zhu
  simp only [stS]
  split
  ·split
   ·rw [zce,zcl];omega
   ·rw [zce,zcl,ydd];omega
  ·rw [zce,zce];omega
 |par a b =>
  have h1:=hf a
  have h2:=hf b
  have:=yez (f a) (f b)
  simp only [stS]
  rw [zbq];omega
 |block a =>
  have h1:=hf a
  simp only [stS]
  split
  ·rename_i s c e
   rw [e,zcl] at h1
   have h2:=hf c
   split
   ·rw [zam,zyc];omega
   ·split
    ·rw [zam];omega
    ·rw [zam,zam,zcl];omega
  ·rw [zam,zam];omega
 |_=>exact Nat.le_refl _
theorem qdm:∀(n:Nat) (m:Tm),(stF n m).size≤m.size
 |0,m=>Nat.le_refl _
 |n+1,m=>ykc (qdm n) m
theorem qqg {f g:Tm→Tm} {m:Tm} (hf:∀x,(f x).size≤x.size) (h:∀x:Tm,x.size<m.size→f x=g x):stS f m=stS g m:=by
 cases m with
 |hand a b=>simp only [stS,h a (by rw [zba];omega),h b (by rw [zba];omega)]
 |seq a b=>simp only [stS,h a (by rw [zaw];omega),h b (by rw [zaw];omega)]
 |stack a c=>simp only [stS,h a (by rw [zdh];omega)]
 |going a b=>simp only [stS,h a (by rw [zce];omega)]
 |par a b=>simp only [stS,h a (by rw [zbq];omega),h b (by rw [zbq];omega)]
 |block a =>
  have h1:=hf a
  simp only [stS,←h a (by rw [zam];omega)]
  split
  ·rename_i s c e
   rw [e,zcl] at h1
   rw [h c (by rw [zam];omega)]
  ·rfl
 |_=>rfl
theorem qxp:∀(n:Nat) (m:Tm),m.size≤n→stF n m=stF (n+1) m
 |0,m,h=>by have:=m.zhu;omega
 |n+1,m,h=>qqg (qdm n) fun x hx=>qxp n x (by omega)
theorem yof:∀(k:Nat) (m:Tm),stF (m.size+k) m=stF m.size m
 |0,m=>rfl
 |k+1,m=>by
  rw [←yof k m]
  exact (qxp (m.size+k) m (by omega)).symm
def st (m:Tm):Tm:=stF m.size m
theorem zdk (m:Tm):m.st.size≤m.size:=qdm _ m
theorem zxx (m:Tm):m.st=stS st m:=by
 have hp:=m.zhu
 unfold st
 obtain ⟨k,hk⟩:∃k,m.size=k+1:=⟨m.size-1,by omega⟩
 rw [hk]
 refine qqg (qdm k) fun x hx=> ?_
 obtain ⟨j,rfl⟩:∃j,k=x.size+j:=⟨k-x.size,by omega⟩
 exact yof j x
theorem zvj (s:ByteArray):(act s).st=act s:=by rw [zxx];rfl
theorem ziw:yield.st=yield:=by rw [zxx];rfl
theorem zqu:skip.st=over 1:=by rw [zxx];rfl
theorem znv:throw.st=over 2:=by rw [zxx];rfl
theorem zfb (s:Int):(over s).st=over s:=by rw [zxx];rfl
theorem qbr (a b:Tm):(alt a b).st=alt a b:=by rw [zxx];rfl
theorem zso (a b:Tm):(pair a b).st=pair a b:=by rw [zxx];rfl
theorem zmp (s:Int) (a:Tm):(fin s a).st=fin s a:=by rw [zxx];rfl
def hand' (x b:Tm):Tm:=match x with
 |over s=>if s=2 then b.st else over s
 |y=>hand y b
def seq' (x b:Tm):Tm:=match x with
 |over s=>if s=1 then b.st else over s
 |fin s c=>if s=1 then zhl b.st c else fin s c
 |y=>seq y b
def zvu (x b:Tm):Tm:=match x with
 |over s=>if s=1 then fin 1 b else fin s skip
 |y=>going y b
def block' (x:Tm):Tm:=match x with
 |fin s c=>if s=1 then over 1 else if s=2 then c.st else block (fin s c)
 |y=>block y
theorem zqv (a b:Tm):(hand a b).st=hand' a.st b:=by rw [zxx];rfl
theorem zsn (a b:Tm):(seq a b).st=seq' a.st b:=by rw [zxx];rfl
theorem zix (a c:Tm):(stack a c).st=zhl a.st c:=by rw [zxx];rfl
theorem zkj (a b:Tm):(going a b).st=zvu a.st b:=by rw [zxx];rfl
theorem zln (a b:Tm):(par a b).st=par' a.st b.st:=by rw [zxx];rfl
theorem zkk (a:Tm):(block a).st=block' a.st:=by rw [zxx];rfl
theorem zug {p:Tm→Prop} (h:∀m,(∀x:Tm,x.size<m.size→p x)→p m) (m:Tm):p m:=by
 have:∀n,∀m:Tm,m.size<n→p m:=by
  intro n
  induction n with
  |zero=>intro m hm;omega
  |succ n ih=>intro m hm;exact h m fun x hx=>ih x (by omega)
 exact this (m.size+1) m (by omega)
def settled (m:Tm):Prop:=m.st=m
theorem ywc:∀m:Tm,m.st.st=m.st:=by
 intro m
 refine zug (p:=fun m=>m.st.st=m.st) (fun m ih=> ?_) m
 cases m with
 |act s=>rw [zvj,zvj]
 |skip=>rw [zqu,zfb]
 |throw=>rw [znv,zfb]
 |yield=>rw [ziw,ziw]
 |over s=>rw [zfb,zfb]
 |alt a b=>rw [qbr,qbr]
 |pair a b=>rw [zso,zso]
 |fin s a=>rw [zmp,zmp]
 |hand a b =>
  have iha:=ih a (by rw [zba];omega)
  have ihb:=ih b (by rw [zba];omega)
  rw [zqv]
  generalize a.st=x at iha
  cases x<;>simp only [hand']<;>first|(rw [zqv,iha];rfl)|skip
  split
  ·exact ihb
  ·rw [zfb]
 |seq a b =>
  have iha:=ih a (by rw [zaw];omega)
  have ihb:=ih b (by rw [zaw];omega)
  rw [zsn]
  generalize a.st=x at iha
  cases x<;>simp only [seq']<;>first|(rw [zsn,iha];rfl)|skip
  ·split
   ·exact ihb
   ·rw [zfb]
  ·split
   ·generalize b.st=y at ihb
    cases y<;>simp only [zhl]<;>first|(rw [zix,ihb];rfl)|rw [zmp]
   ·rw [zmp]
 |stack a c =>
  have iha:=ih a (by rw [zdh];omega)
  rw [zix]
  generalize a.st=x at iha
  cases x<;>simp only [zhl]<;>first|(rw [zix,iha];rfl)|rw [zmp]
 |going a b =>
  have iha:=ih a (by rw [zce];omega)
  rw [zkj]
  generalize a.st=x at iha
  cases x<;>simp only [zvu]<;>first|(rw [zkj,iha];rfl)|skip
  split<;>rw [zmp]
 |par a b =>
  have iha:=ih a (by rw [zbq];omega)
  have ihb:=ih b (by rw [zbq];omega)
  rw [zln]
  rcases zkd a.st b.st with ⟨s,z,_,_,e⟩|⟨s,c,z,d,_,_,e⟩|e
  ·rw [e,zfb]
  ·rw [e,zmp]
  ·rw [e,zln,iha,ihb,e]
 |block a =>
  have iha:=ih a (by rw [zam];omega)
  have hsz:=a.zdk
  rw [zkk]
  generalize a.st=x at iha hsz
  cases x<;>simp only [block']<;>first|(rw [zkk,iha];rfl)|skip
  rename_i s c
  split
  ·rw [zfb]
  ·split
   ·exact ih c (by rw [zam];rw [zcl] at hsz;omega)
   ·rename_i h1 h2
    rw [zkk,zmp]
    simp only [block',h1,h2,if_false]
theorem ycu:∀m:Tm,(m.po=true→m.st.po=true)∧(m.qo=true→m.st.qo=true):=by
 intro m
 refine zug (p:=fun m=>(m.po=true→m.st.po=true)∧(m.qo=true→m.st.qo=true)) (fun m ih=> ?_) m
 cases m with
 |act s=>rw [zvj];exact ⟨fun h=>h,fun h=>h⟩
 |skip=>rw [zqu];exact ⟨fun h=>rfl,fun h=>by cases h⟩
 |throw=>rw [znv];exact ⟨fun h=>rfl,fun h=>by cases h⟩
 |yield=>rw [ziw];exact ⟨fun h=>h,fun h=>h⟩
 |over s=>rw [zfb];exact ⟨fun h=>h,fun h=>h⟩
 |alt a b=>rw [qbr];exact ⟨fun h=>h,fun h=>h⟩
 |pair a b=>rw [zso];exact ⟨fun h=>h,fun h=>h⟩
 |fin s a=>rw [zmp];exact ⟨fun h=>h,fun h=>h⟩
 |hand a b =>
  obtain ⟨iha,_⟩:=ih a (by rw [zba];omega)
  obtain ⟨ihb,_⟩:=ih b (by rw [zba];omega)
  rw [zqv]
  refine ⟨fun h=> ?_,fun h=>by cases h⟩
  simp only [po,Bool.and_eq_true] at h
  have h1:=iha h.1
  generalize a.st=x at h1
  cases x<;>simp only [hand']<;>first|exact andT h1 h.2|skip
  split
  ·exact ihb (zga h.2)
  ·rfl
 |seq a b =>
  obtain ⟨iha,iha'⟩:=ih a (by rw [zaw];omega)
  obtain ⟨ihb,ihb'⟩:=ih b (by rw [zaw];omega)
  rw [zsn]
  refine ⟨fun h=> ?_,fun h=> ?_⟩
  ·simp only [po,Bool.and_eq_true] at h
   have h1:=iha h.1
   generalize a.st=x at h1
   cases x<;>simp only [seq']<;>first|exact andT h1 h.2|skip
   ·split
    ·exact ihb (zga h.2)
    ·rfl
   ·cases h1
  ·simp only [qo,Bool.and_eq_true] at h
   have h1:=iha' h.1
   generalize a.st=x at h1
   cases x<;>simp only [seq']<;>first|exact andT h1 h.2|skip
   ·cases h1
   ·split
    ·have h2:=ihb' (zrn h.2)
     rename_i s c _
     have h1':c.pl=true:=h1
     generalize b.st=y at h2
     cases y<;>simp only [zhl]<;>first|exact andT h2 h1'|exact andT h2 h1'
    ·exact h1
 |stack a c =>
  obtain ⟨_,iha⟩:=ih a (by rw [zdh];omega)
  rw [zix]
  refine ⟨fun h=>(by cases h),fun h=> ?_⟩
  simp only [qo,Bool.and_eq_true] at h
  have h1:=iha h.1
  generalize a.st=x at h1
  cases x<;>simp only [zhl]<;>exact andT h1 h.2
 |going a b =>
  obtain ⟨iha,_⟩:=ih a (by rw [zce];omega)
  rw [zkj]
  refine ⟨fun h=>(by cases h),fun h=> ?_⟩
  simp only [qo,Bool.and_eq_true] at h
  have h1:=iha h.1
  generalize a.st=x at h1
  cases x<;>simp only [zvu]<;>first|exact andT h1 h.2|skip
  split
  ·exact h.2
  ·rfl
 |par a b =>
  obtain ⟨iha,iha'⟩:=ih a (by rw [zbq];omega)
  obtain ⟨ihb,ihb'⟩:=ih b (by rw [zbq];omega)
  rw [zln]
  refine ⟨fun h=> ?_,fun h=> ?_⟩
  ·simp only [po,Bool.and_eq_true] at h
   have h1:=iha h.1
   have h2:=ihb h.2
   generalize a.st=x at h1
   generalize b.st=y at h2
   unfold par'
   split
   ·rfl
   ·cases h1
   ·simp only [po,Bool.and_eq_true];exact ⟨h1,h2⟩
  ·simp only [qo,Bool.and_eq_true] at h
   have h1:=iha' h.1
   have h2:=ihb' h.2
   generalize a.st=x at h1
   generalize b.st=y at h2
   unfold par'
   split
   ·cases h1
   ·simp only [qo,pl,Bool.and_eq_true] at h1 h2 ⊢;exact ⟨h1,h2⟩
   ·simp only [qo,Bool.and_eq_true];exact ⟨h1,h2⟩
 |block a =>
  obtain ⟨_,iha⟩:=ih a (by rw [zam];omega)
  have hsz:=a.zdk
  rw [zkk]
  refine ⟨fun h=> ?_,fun h=>by cases h⟩
  have h1:=iha h
  generalize a.st=x at h1 hsz
  cases x<;>simp only [block']<;>first|exact h1|skip
  rename_i s c
  split
  ·rfl
  ·split
   ·exact (ih c (by rw [zam];rw [zcl] at hsz;omega)).1 (zga h1)
   ·exact h1
theorem qzf {m:Tm} (h:m.po=true):m.st.po=true:=(ycu m).1 h
theorem yct {m:Tm} (h:m.qo=true):m.st.qo=true:=(ycu m).2 h
theorem yra {p:ByteArray→Prop} {q:Int→Prop} (q1:q 1) (q2:q 2) (qb:∀a b,q a→q b→q (bs a b)):∀m:Tm,m.good p q→m.st.good p q:=by
 intro m
 refine zug (p:=fun m=>m.good p q→m.st.good p q) (fun m ih=> ?_) m
 have gs:∀x c:Tm,x.good p q→c.good p q→(zhl x c).good p q:=fun x c hx hc=>by
  cases x<;>simp only [zhl,good] at hx ⊢<;>first|exact ⟨hx,hc⟩|exact ⟨hx.1,hx.2,hc⟩
 cases m with
 |act s=>rw [zvj];exact fun h=>h
 |skip=>rw [zqu];exact fun _=>q1
 |throw=>rw [znv];exact fun _=>q2
 |yield=>rw [ziw];exact fun h=>h
 |over s=>rw [zfb];exact fun h=>h
 |alt a b=>rw [qbr];exact fun h=>h
 |pair a b=>rw [zso];exact fun h=>h
 |fin s a=>rw [zmp];exact fun h=>h
 |hand a b =>
  intro h
  have h1:=ih a (by rw [zba];omega) h.1
  have h2:=ih b (by rw [zba];omega) h.2
  rw [zqv]
  generalize a.st=x at h1
  cases x<;>simp only [hand']<;>first|exact ⟨h1,h.2⟩|skip
  split
  ·exact h2
  ·exact h1
 |seq a b =>
  intro h
  have h1:=ih a (by rw [zaw];omega) h.1
  have h2:=ih b (by rw [zaw];omega) h.2
  rw [zsn]
  generalize a.st=x at h1
  cases x<;>simp only [seq']<;>first|exact ⟨h1,h.2⟩|skip
  ·split
   ·exact h2
   ·exact h1
  ·split
   ·exact gs _ _ h2 h1.2
   ·exact h1
 |stack a c =>
  intro h
  rw [zix]
  exact gs _ _ (ih a (by rw [zdh];omega) h.1) h.2
 |going a b =>
  intro h
  have h1:=ih a (by rw [zce];omega) h.1
  rw [zkj]
  generalize a.st=x at h1
  cases x<;>simp only [zvu]<;>first|exact ⟨h1,h.2⟩|skip
  split
  ·exact ⟨q1,h.2⟩
  ·exact ⟨h1,trivial⟩
 |par a b =>
  intro h
  have h1:=ih a (by rw [zbq];omega) h.1
  have h2:=ih b (by rw [zbq];omega) h.2
  rw [zln]
  generalize a.st=x at h1
  generalize b.st=y at h2
  unfold par'
  split
  ·exact qb _ _ h1 h2
  ·exact ⟨qb _ _ h1.1 h2.1,h1.2,h2.2⟩
  ·exact ⟨h1,h2⟩
 |block a =>
  intro h
  have h1:=ih a (by rw [zam];omega) h
  have hsz:=a.zdk
  rw [zkk]
  generalize a.st=x at h1 hsz
  cases x<;>simp only [block']<;>first|exact h1|skip
  rename_i s c
  split
  ·exact q1
  ·split
   ·exact ih c (by rw [zam];rw [zcl] at hsz;omega) h1.2
   ·exact h1
theorem qaj {m:Tm} (h:m.fine):m.st.fine:=yra (by decide) (by decide) (fun a b ha hb=>yte ha hb) m h
end Tm
end Go.Rd
