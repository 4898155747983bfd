/- Sorts as numbers. Plain Lean, no program in sight. -/
import Derived.Test.YtjolkdjkhekbnaaGreatDoorW03r
import Derived.RangeFuncNested
import Derived.TacticsInMore
import Derived.LoopNIn
import Derived.LoopIn
set_option linter.unusedVariables false
set_option linter.unusedSimpArgs false
namespace Go.Rd
open Go Go.Sv
def on (s:Int):Int:=if s=1∨s=2 then s+2 else s
def both (a b:Int):Int:=if on a=on b then (if b>a then b else a) else 0
def behind (a b t:Int):Int:=if b=t then (if on a=on t then a else 0) else 0
def so2 (k x y:Int):Int:=
 if x=0 then 0 else if y=0 then 0
 else if k=6 then (if x>2 then 0 else if y>2 then 0 else both x y)
 else if k=7 then both x y
 else if k=5 then (if behind x y 2>behind x y 1 then behind x y 2 else behind x y 1)
 else if k=8 then behind x y 1
 else if k=10 then (if x=1 then (if y=1 then 2 else 0) else 0)
 else if k=12 then (if on x=3 then (if y=1 then 4 else 0) else 0)
 else if k=13 then (if on x=4 then (if y=1 then 4 else 0) else 0)
 else 0
def so1 (k x:Int):Int:=
 if x=0 then 0
 else if k=9 then (if on x=4 then x-1 else 0)
 else if k=14 then (if x=1 then 4 else 0)
 else 0
namespace Tm
theorem xjm (a b:Tm):(seq a b).so=so2 5 a.so b.so:=by
 rcases cls a with ⟨h,h1,h2,h3,h4⟩|⟨h,h1,h2,h3,h4⟩|⟨h,h1,h2,h3,h4⟩|⟨h,h1,h2,h3,h4⟩|⟨h,h1,h2,h3,h4⟩<;>
 rcases cls b with ⟨k,k1,k2,k3,k4⟩|⟨k,k1,k2,k3,k4⟩|⟨k,k1,k2,k3,k4⟩|⟨k,k1,k2,k3,k4⟩|⟨k,k1,k2,k3,k4⟩<;>
 (rw [h,k];simp only [so,pl,pa,po,qo,h1,h2,h3,h4,k1,k2,k3,k4];rfl)
theorem xjq (a b:Tm):(alt a b).so=so2 6 a.so b.so:=by
 rcases cls a with ⟨h,h1,h2,h3,h4⟩|⟨h,h1,h2,h3,h4⟩|⟨h,h1,h2,h3,h4⟩|⟨h,h1,h2,h3,h4⟩|⟨h,h1,h2,h3,h4⟩<;>
 rcases cls b with ⟨k,k1,k2,k3,k4⟩|⟨k,k1,k2,k3,k4⟩|⟨k,k1,k2,k3,k4⟩|⟨k,k1,k2,k3,k4⟩|⟨k,k1,k2,k3,k4⟩<;>
 (rw [h,k];simp only [so,pl,pa,po,qo,h1,h2,h3,h4,k1,k2,k3,k4];rfl)
theorem xjo (a b:Tm):(par a b).so=so2 7 a.so b.so:=by
 rcases cls a with ⟨h,h1,h2,h3,h4⟩|⟨h,h1,h2,h3,h4⟩|⟨h,h1,h2,h3,h4⟩|⟨h,h1,h2,h3,h4⟩|⟨h,h1,h2,h3,h4⟩<;>
 rcases cls b with ⟨k,k1,k2,k3,k4⟩|⟨k,k1,k2,k3,k4⟩|⟨k,k1,k2,k3,k4⟩|⟨k,k1,k2,k3,k4⟩|⟨k,k1,k2,k3,k4⟩<;>
 (rw [h,k];simp only [so,pl,pa,po,qo,h1,h2,h3,h4,k1,k2,k3,k4];rfl)
theorem xgj (a b:Tm):(hand a b).so=so2 8 a.so b.so:=by
 rcases cls a with ⟨h,h1,h2,h3,h4⟩|⟨h,h1,h2,h3,h4⟩|⟨h,h1,h2,h3,h4⟩|⟨h,h1,h2,h3,h4⟩|⟨h,h1,h2,h3,h4⟩<;>
 rcases cls b with ⟨k,k1,k2,k3,k4⟩|⟨k,k1,k2,k3,k4⟩|⟨k,k1,k2,k3,k4⟩|⟨k,k1,k2,k3,k4⟩|⟨k,k1,k2,k3,k4⟩<;>
 (rw [h,k];simp only [so,pl,pa,po,qo,h1,h2,h3,h4,k1,k2,k3,k4];rfl)
theorem xgi (a b:Tm):(pair a b).so=so2 10 a.so b.so:=by
 rcases cls a with ⟨h,h1,h2,h3,h4⟩|⟨h,h1,h2,h3,h4⟩|⟨h,h1,h2,h3,h4⟩|⟨h,h1,h2,h3,h4⟩|⟨h,h1,h2,h3,h4⟩<;>
 rcases cls b with ⟨k,k1,k2,k3,k4⟩|⟨k,k1,k2,k3,k4⟩|⟨k,k1,k2,k3,k4⟩|⟨k,k1,k2,k3,k4⟩|⟨k,k1,k2,k3,k4⟩<;>
 (rw [h,k];simp only [so,pl,pa,po,qo,h1,h2,h3,h4,k1,k2,k3,k4];rfl)
theorem yzz (a b:Tm):(going a b).so=so2 12 a.so b.so:=by
 rcases cls a with ⟨h,h1,h2,h3,h4⟩|⟨h,h1,h2,h3,h4⟩|⟨h,h1,h2,h3,h4⟩|⟨h,h1,h2,h3,h4⟩|⟨h,h1,h2,h3,h4⟩<;>
 rcases cls b with ⟨k,k1,k2,k3,k4⟩|⟨k,k1,k2,k3,k4⟩|⟨k,k1,k2,k3,k4⟩|⟨k,k1,k2,k3,k4⟩|⟨k,k1,k2,k3,k4⟩<;>
 (rw [h,k];simp only [so,pl,pa,po,qo,h1,h2,h3,h4,k1,k2,k3,k4];rfl)
theorem yzx (a b:Tm):(stack a b).so=so2 13 a.so b.so:=by
 rcases cls a with ⟨h,h1,h2,h3,h4⟩|⟨h,h1,h2,h3,h4⟩|⟨h,h1,h2,h3,h4⟩|⟨h,h1,h2,h3,h4⟩|⟨h,h1,h2,h3,h4⟩<;>
 rcases cls b with ⟨k,k1,k2,k3,k4⟩|⟨k,k1,k2,k3,k4⟩|⟨k,k1,k2,k3,k4⟩|⟨k,k1,k2,k3,k4⟩|⟨k,k1,k2,k3,k4⟩<;>
 (rw [h,k];simp only [so,pl,pa,po,qo,h1,h2,h3,h4,k1,k2,k3,k4];rfl)
theorem xaa (a:Tm):(block a).so=so1 9 a.so:=by
 rcases cls a with ⟨h,h1,h2,h3,h4⟩|⟨h,h1,h2,h3,h4⟩|⟨h,h1,h2,h3,h4⟩|⟨h,h1,h2,h3,h4⟩|⟨h,h1,h2,h3,h4⟩<;>
 (rw [h];simp only [so,pl,pa,po,qo,h1,h2,h3,h4];rfl)
theorem xjp (s:Int) (a:Tm):(fin s a).so=so1 14 a.so:=by
 rcases cls a with ⟨h,h1,h2,h3,h4⟩|⟨h,h1,h2,h3,h4⟩|⟨h,h1,h2,h3,h4⟩|⟨h,h1,h2,h3,h4⟩|⟨h,h1,h2,h3,h4⟩<;>
 (rw [h];simp only [so,pl,pa,po,qo,h1,h2,h3,h4];rfl)
theorem yzy (a:Tm):0≤a.so∧a.so≤4:=by rcases cls a with h|h|h|h|h<;>omega
theorem ysz (a:Tm):a.po=decide (on a.so=3):=by rcases cls a with ⟨h,h1,h2,h3,h4⟩|⟨h,h1,h2,h3,h4⟩|⟨h,h1,h2,h3,h4⟩|⟨h,h1,h2,h3,h4⟩|⟨h,h1,h2,h3,h4⟩<;>(rw [h,h3];rfl)
theorem xjn (a:Tm):a.qo=decide (on a.so=4):=by rcases cls a with ⟨h,h1,h2,h3,h4⟩|⟨h,h1,h2,h3,h4⟩|⟨h,h1,h2,h3,h4⟩|⟨h,h1,h2,h3,h4⟩|⟨h,h1,h2,h3,h4⟩<;>(rw [h,h4];rfl)
theorem xlg (a:Tm):a.pl=decide (a.so=1):=by rcases cls a with ⟨h,h1,h2,h3,h4⟩|⟨h,h1,h2,h3,h4⟩|⟨h,h1,h2,h3,h4⟩|⟨h,h1,h2,h3,h4⟩|⟨h,h1,h2,h3,h4⟩<;>(rw [h,h1];rfl)
end Tm
noncomputable def tmOf (l:List Nd):Option Tm:=if h:whole l=true then some (Classical.choose (qhs.1 h)) else none
theorem zjg {l:List Nd} {m:Tm}:tmOf l=some m↔l=m.row∧m.fine∧m.size≤200:=by
 unfold tmOf;split
 ·rename_i h;have hs:=Classical.choose_spec (qhs.1 h);constructor
  ·intro e;cases e;exact hs
  ·rintro ⟨e,_⟩
   congr 1
   exact Tm.qkx (hs.1.symm.trans e)
 ·rename_i h;constructor
  ·intro e;cases e
  ·intro e;exact absurd (qhs.2 ⟨m,e⟩) h
theorem ysi {l:List Nd}:tmOf l=none↔whole l=false:=by
 unfold tmOf;split
 ·rename_i h;simp [h]
 ·rename_i h;simpa using h
theorem qwz (l:List Nd):whole l=(tmOf l).isSome:=by
 cases h:tmOf l with
 |none=>rw [ysi.1 h];rfl
 |some m=>rw [qhs.2 ⟨m,zjg.1 h⟩];rfl
noncomputable def sOf (l:List Nd):Int:=match tmOf l with|some m=>m.so|none=>0
theorem ytl {m:Tm} (h:m.fine) (hs:m.size≤200):sOf m.row=m.so:=by unfold sOf;rw [zjg.2 ⟨rfl,h,hs⟩]
theorem ytm {l:List Nd} (h:sOf l≠0):∃m:Tm,l=m.row∧m.fine∧m.size≤200∧sOf l=m.so:=by
 unfold sOf at h ⊢;cases ht:tmOf l with
 |none=>rw [ht] at h;exact absurd rfl h
 |some m=>obtain ⟨h1,h2,h3⟩:=zjg.1 ht;exact ⟨m,h1,h2,h3,rfl⟩
def hit (names:List ByteArray) (n:Nd):Bool:=decide (n.1=1)&&decide (n.2.1∈names)
def T.rw (ns:List ByteArray):T→T
 | .n0 n=>bif hit ns n then .n2 (nd 6) (.n0 n) (.n0 (nd 3)) else .n0 n
 | .n1 n a=>.n1 n (a.rw ns)
 | .n2 n a b=>.n2 n (a.rw ns) (b.rw ns)
namespace Tm
end Tm
namespace Tm
def zlm (x c:Tm):Tm:=match x with
 |fin s d=>fin s (seq d c)
 |y=>stack y c
def par' (x y:Tm):Tm:=match x,y with
 |over s,over z=>over (bs s z)
 |fin s c,fin z d=>fin (bs s z) (par c d)
 |x,y=>par x y
theorem zpb (x y:Tm):(∃s z,x=over s∧y=over z∧par' x y=over (bs s z))∨(∃s c z d,x=fin s c∧y=fin z d∧par' x y=fin (bs s z) (par c d))∨par' x y=par x y:=by
 unfold par';split
 ·exact .inl ⟨_,_,rfl,rfl,rfl⟩
 ·exact .inr (.inl ⟨_,_,_,_,rfl,rfl,rfl⟩)
 ·exact .inr (.inr rfl)
theorem andT {a b:Bool} (h:a=true) (k:b=true):(a&&b)=true:=by rw [h,k];rfl
theorem qqh (x c:Tm):(zlm x c).size=x.size+c.size+1:=by cases x<;>simp only [zlm,zcn,zbf,zcx];omega
theorem yux (x y:Tm):(par' x y).size≤x.size+y.size+1:=by
 unfold par';split
 ·simp only [qig];omega
 ·simp only [zcn,zbv];omega
 ·simp only [zbv];omega
def stS (f:Tm→Tm):Tm→Tm
 |skip=>over 1
 |throw=>over 2
 |hand a b=>(match f a with
  |over s=>if s=2 then f b else over s
  |y=>hand y b)
 |seq a b=>(match f a with
  |over s=>if s=1 then f b else over s
  |fin s c=>if s=1 then zlm (f b) c else fin s c
  |y=>seq y b)
 |stack a c=>zlm (f a) c
 |going a b=>(match f a with
  |over s=>if s=1 then fin 1 b else fin s skip
  |y=>going y b)
 |par a b=>par' (f a) (f b)
 |block a=>(match f a with
  |fin s c=>if s=1 then over 1 else if s=2 then f c else block (fin s c)
  |y=>block y)
 |m=>m
def stF:Nat→Tm→Tm
 |0,m=>m
 |n+1,m=>stS (stF n) m
theorem yzv {f:Tm→Tm} (hf:∀x,(f x).size≤x.size):∀m,(stS f m).size≤m.size:=by
 intro m;cases m with
 |skip=>exact Nat.le_refl _
 |throw=>exact Nat.le_refl _
 |hand a b=>
  have h1:=hf a;have h2:=hf b;simp only [stS];split
  ·split
   ·rw [zbk];omega
   ·rw [zbk,qig];omega
  ·rw [zbk,zbk];omega
 |seq a b=>
  have h1:=hf a;have h2:=hf b;simp only [stS];split
  ·split
   ·rw [zbf];omega
   ·rw [zbf,qig];omega
  ·rename_i s c e;rw [e,zcn] at h1;split
   ·rw [qqh,zbf];omega
   ·rw [zcn,zbf];omega
  ·rw [zbf,zbf];omega
 |stack a c=>have h1:=hf a;simp only [stS];rw [qqh,zcx];omega
 |going a b=>
  have h1:=hf a;have h2:=b.zdj;simp only [stS];split
  ·split
   ·rw [zca,zcn];omega
   ·rw [zca,zcn,yta];omega
  ·rw [zca,zca];omega
 |par a b=>have h1:=hf a;have h2:=hf b;have:=yux (f a) (f b);simp only [stS];rw [zbv];omega
 |block a=>
  have h1:=hf a;simp only [stS];split
  ·rename_i s c e;rw [e,zcn] at h1;have h2:=hf c;split
   ·rw [zav,qig];omega
   ·split
    ·rw [zav];omega
    ·rw [zav,zav,zcn];omega
  ·rw [zav,zav];omega
 |_=>exact Nat.le_refl _
theorem qor:∀(n:Nat) (m:Tm),(stF n m).size≤m.size
 |0,m=>Nat.le_refl _
 |n+1,m=>yzv (qor n) m
theorem yei {f g:Tm→Tm} {m:Tm} (hf:∀x,(f x).size≤x.size) (h:∀x:Tm,x.size<m.size→f x=g x):stS f m=stS g m:=by
 cases m with
 |hand a b=>simp only [stS,h a (by rw [zbk];omega),h b (by rw [zbk];omega)]
 |seq a b=>simp only [stS,h a (by rw [zbf];omega),h b (by rw [zbf];omega)]
 |stack a c=>simp only [stS,h a (by rw [zcx];omega)]
 |going a b=>simp only [stS,h a (by rw [zca];omega)]
 |par a b=>simp only [stS,h a (by rw [zbv];omega),h b (by rw [zbv];omega)]
 |block a=>
  have h1:=hf a;simp only [stS,←h a (by rw [zav];omega)];split
  ·rename_i s c e;rw [e,zcn] at h1;rw [h c (by rw [zav];omega)]
  ·rfl
 |_=>rfl
theorem ymx:∀(n:Nat) (m:Tm),m.size≤n→stF n m=stF (n+1) m
 |0,m,h=>by have:=m.zdj;omega
 |n+1,m,h=>yei (qor n) fun x hx=>ymx n x (by omega)
theorem xdo:∀(k:Nat) (m:Tm),stF (m.size+k) m=stF m.size m
 |0,m=>rfl
 |k+1,m=>by rw [←xdo k m];exact (ymx (m.size+k) m (by omega)).symm
def st (m:Tm):Tm:=stF m.size m
theorem zcd (m:Tm):m.st.size≤m.size:=qor _ m
theorem qhz (m:Tm):m.st=stS st m:=by
 have hp:=m.zdj;unfold st;obtain ⟨k,hk⟩:∃k,m.size=k+1:=⟨m.size-1,by omega⟩;rw [hk];refine yei (qor k) fun x hx=> ?_
 obtain ⟨j,rfl⟩:∃j,k=x.size+j:=⟨k-x.size,by omega⟩;exact xdo j x
theorem qba (s:ByteArray):(act s).st=act s:=by rw [qhz];rfl
theorem zmn:yield.st=yield:=by rw [qhz];rfl
theorem zsr:skip.st=over 1:=by rw [qhz];rfl
theorem zpj:throw.st=over 2:=by rw [qhz];rfl
theorem zhx (s:Int):(over s).st=over s:=by rw [qhz];rfl
theorem qia (a b:Tm):(alt a b).st=alt a b:=by rw [qhz];rfl
theorem zya (a b:Tm):(pair a b).st=pair a b:=by rw [qhz];rfl
theorem zre (s:Int) (a:Tm):(fin s a).st=fin s a:=by rw [qhz];rfl
def hand' (x b:Tm):Tm:=match x with
 |over s=>if s=2 then b.st else over s
 |y=>hand y b
def seq' (x b:Tm):Tm:=match x with
 |over s=>if s=1 then b.st else over s
 |fin s c=>if s=1 then zlm b.st c else fin s c
 |y=>seq y b
def qcq (x b:Tm):Tm:=match x with
 |over s=>if s=1 then fin 1 b else fin s skip
 |y=>going y b
def block' (x:Tm):Tm:=match x with
 |fin s c=>if s=1 then over 1 else if s=2 then c.st else block (fin s c)
 |y=>block y
theorem zve (a b:Tm):(hand a b).st=hand' a.st b:=by rw [qhz];rfl
theorem zzy (a b:Tm):(seq a b).st=seq' a.st b:=by rw [qhz];rfl
theorem zmo (a c:Tm):(stack a c).st=zlm a.st c:=by rw [qhz];rfl
theorem zns (a b:Tm):(going a b).st=qcq a.st b:=by rw [qhz];rfl
theorem zpx (a b:Tm):(par a b).st=par' a.st b.st:=by rw [qhz];rfl
theorem znt (a:Tm):(block a).st=block' a.st:=by rw [qhz];rfl
theorem qde {p:Tm→Prop} (h:∀m,(∀x:Tm,x.size<m.size→p x)→p m) (m:Tm):p m:=by
 have:∀n,∀m:Tm,m.size<n→p m:=by
  intro n
  induction n with
  |zero=>intro m hm;omega
  |succ n ih=>intro m hm;exact h m fun x hx=>ih x (by omega)
 exact this (m.size+1) m (by omega)
def settled (m:Tm):Prop:=m.st=m
theorem yzt:∀m:Tm,m.st.st=m.st:=by
 intro m;refine qde (p:=fun m=>m.st.st=m.st) (fun m ih=> ?_) m;cases m with
 |act s=>rw [qba,qba]
 |skip=>rw [zsr,zhx]
 |throw=>rw [zpj,zhx]
 |yield=>rw [zmn,zmn]
 |over s=>rw [zhx,zhx]
 |alt a b=>rw [qia,qia]
 |pair a b=>rw [zya,zya]
 |fin s a=>rw [zre,zre]
 |hand a b=>
  have iha:=ih a (by rw [zbk];omega);have ihb:=ih b (by rw [zbk];omega);rw [zve];generalize a.st=x at iha;cases x<;>simp only [hand']<;>first|(rw [zve,iha];rfl)|skip
  split
  ·exact ihb
  ·rw [zhx]
 |seq a b=>
  have iha:=ih a (by rw [zbf];omega);have ihb:=ih b (by rw [zbf];omega);rw [zzy];generalize a.st=x at iha;cases x<;>simp only [seq']<;>first|(rw [zzy,iha];rfl)|skip
  ·split
   ·exact ihb
   ·rw [zhx]
  ·split
   ·generalize b.st=y at ihb;cases y<;>simp only [zlm]<;>first|(rw [zmo,ihb];rfl)|rw [zre]
   ·rw [zre]
 |stack a c=>have iha:=ih a (by rw [zcx];omega);rw [zmo];generalize a.st=x at iha;cases x<;>simp only [zlm]<;>first|(rw [zmo,iha];rfl)|rw [zre]
 |going a b=>
  have iha:=ih a (by rw [zca];omega);rw [zns];generalize a.st=x at iha;cases x<;>simp only [qcq]<;>first|(rw [zns,iha];rfl)|skip
  split<;>rw [zre]
 |par a b=>
  have iha:=ih a (by rw [zbv];omega);have ihb:=ih b (by rw [zbv];omega);rw [zpx];rcases zpb a.st b.st with ⟨s,z,_,_,e⟩|⟨s,c,z,d,_,_,e⟩|e
  ·rw [e,zhx]
  ·rw [e,zre]
  ·rw [e,zpx,iha,ihb,e]
 |block a=>
  have iha:=ih a (by rw [zav];omega);have hsz:=a.zcd;rw [znt];generalize a.st=x at iha hsz;cases x<;>simp only [block']<;>first|(rw [znt,iha];rfl)|skip
  rename_i s c;split
  ·rw [zhx]
  ·split
   ·exact ih c (by rw [zav];rw [zcn] at hsz;omega)
   ·rename_i h1 h2;rw [znt,zre];simp only [block',h1,h2,if_false]
theorem ysq:∀m:Tm,(m.po=true→m.st.po=true)∧(m.qo=true→m.st.qo=true):=by
 intro m;refine qde (p:=fun m=>(m.po=true→m.st.po=true)∧(m.qo=true→m.st.qo=true)) (fun m ih=> ?_) m;cases m with
 |act s=>rw [qba];exact ⟨fun h=>h,fun h=>h⟩
 |skip=>rw [zsr];exact ⟨fun h=>rfl,fun h=>by cases h⟩
 |throw=>rw [zpj];exact ⟨fun h=>rfl,fun h=>by cases h⟩
 |yield=>rw [zmn];exact ⟨fun h=>h,fun h=>h⟩
 |over s=>rw [zhx];exact ⟨fun h=>h,fun h=>h⟩
 |alt a b=>rw [qia];exact ⟨fun h=>h,fun h=>h⟩
 |pair a b=>rw [zya];exact ⟨fun h=>h,fun h=>h⟩
 |fin s a=>rw [zre];exact ⟨fun h=>h,fun h=>h⟩
 |hand a b=>
  obtain ⟨iha,_⟩:=ih a (by rw [zbk];omega);obtain ⟨ihb,_⟩:=ih b (by rw [zbk];omega);rw [zve];refine ⟨fun h=> ?_,fun h=>by cases h⟩;simp only [po,Bool.and_eq_true] at h;have h1:=iha h.1;generalize a.st=x at h1;cases x<;>simp only [hand']<;>first|exact andT h1 h.2|skip
  split
  ·exact ihb (zcg h.2)
  ·rfl
 |seq a b=>
  obtain ⟨iha,iha'⟩:=ih a (by rw [zbf];omega);obtain ⟨ihb,ihb'⟩:=ih b (by rw [zbf];omega);rw [zzy];refine ⟨fun h=> ?_,fun h=> ?_⟩
  ·simp only [po,Bool.and_eq_true] at h;have h1:=iha h.1;generalize a.st=x at h1;cases x<;>simp only [seq']<;>first|exact andT h1 h.2|skip
   ·split
    ·exact ihb (zcg h.2)
    ·rfl
   ·cases h1
  ·simp only [qo,Bool.and_eq_true] at h;have h1:=iha' h.1;generalize a.st=x at h1;cases x<;>simp only [seq']<;>first|exact andT h1 h.2|skip
   ·cases h1
   ·split
    ·have h2:=ihb' (zja h.2);rename_i s c _;have h1':c.pl=true:=h1;generalize b.st=y at h2;cases y<;>simp only [zlm]<;>first|exact andT h2 h1'|exact andT h2 h1'
    ·exact h1
 |stack a c=>obtain ⟨_,iha⟩:=ih a (by rw [zcx];omega);rw [zmo];refine ⟨fun h=>(by cases h),fun h=> ?_⟩;simp only [qo,Bool.and_eq_true] at h;have h1:=iha h.1;generalize a.st=x at h1;cases x<;>simp only [zlm]<;>exact andT h1 h.2
 |going a b=>
  obtain ⟨iha,_⟩:=ih a (by rw [zca];omega);rw [zns];refine ⟨fun h=>(by cases h),fun h=> ?_⟩;simp only [qo,Bool.and_eq_true] at h;have h1:=iha h.1;generalize a.st=x at h1;cases x<;>simp only [qcq]<;>first|exact andT h1 h.2|skip
  split
  ·exact h.2
  ·rfl
 |par a b=>
  obtain ⟨iha,iha'⟩:=ih a (by rw [zbv];omega);obtain ⟨ihb,ihb'⟩:=ih b (by rw [zbv];omega);rw [zpx];refine ⟨fun h=> ?_,fun h=> ?_⟩
  ·simp only [po,Bool.and_eq_true] at h;have h1:=iha h.1;have h2:=ihb h.2;generalize a.st=x at h1;generalize b.st=y at h2;unfold par';split
   ·rfl
   ·cases h1
   ·simp only [po,Bool.and_eq_true];exact ⟨h1,h2⟩
  ·simp only [qo,Bool.and_eq_true] at h;have h1:=iha' h.1;have h2:=ihb' h.2;generalize a.st=x at h1;generalize b.st=y at h2;unfold par';split
   ·cases h1
   ·simp only [qo,pl,Bool.and_eq_true] at h1 h2 ⊢;exact ⟨h1,h2⟩
   ·simp only [qo,Bool.and_eq_true];exact ⟨h1,h2⟩
 |block a=>
  obtain ⟨_,iha⟩:=ih a (by rw [zav];omega);have hsz:=a.zcd;rw [znt];refine ⟨fun h=> ?_,fun h=>by cases h⟩;have h1:=iha h;generalize a.st=x at h1 hsz;cases x<;>simp only [block']<;>first|exact h1|skip
  rename_i s c;split
  ·rfl
  ·split
   ·exact (ih c (by rw [zav];rw [zcn] at hsz;omega)).1 (zcg h1)
   ·exact h1
theorem qnr {m:Tm} (h:m.po=true):m.st.po=true:=(ysq m).1 h
theorem qzw {m:Tm} (h:m.qo=true):m.st.qo=true:=(ysq m).2 h
theorem xgf {p:ByteArray→Prop} {q:Int→Prop} (q1:q 1) (q2:q 2) (qb:∀a b,q a→q b→q (bs a b)):∀m:Tm,m.good p q→m.st.good p q:=by
 intro m;refine qde (p:=fun m=>m.good p q→m.st.good p q) (fun m ih=> ?_) m;have gs:∀x c:Tm,x.good p q→c.good p q→(zlm x c).good p q:=fun x c hx hc=>by cases x<;>simp only [zlm,good] at hx ⊢<;>first|exact ⟨hx,hc⟩|exact ⟨hx.1,hx.2,hc⟩
 cases m with
 |act s=>rw [qba];exact fun h=>h
 |skip=>rw [zsr];exact fun _=>q1
 |throw=>rw [zpj];exact fun _=>q2
 |yield=>rw [zmn];exact fun h=>h
 |over s=>rw [zhx];exact fun h=>h
 |alt a b=>rw [qia];exact fun h=>h
 |pair a b=>rw [zya];exact fun h=>h
 |fin s a=>rw [zre];exact fun h=>h
 |hand a b=>
  intro h;have h1:=ih a (by rw [zbk];omega) h.1;have h2:=ih b (by rw [zbk];omega) h.2;rw [zve];generalize a.st=x at h1;cases x<;>simp only [hand']<;>first|exact ⟨h1,h.2⟩|skip
  split
  ·exact h2
  ·exact h1
 |seq a b=>
  intro h;have h1:=ih a (by rw [zbf];omega) h.1;have h2:=ih b (by rw [zbf];omega) h.2;rw [zzy];generalize a.st=x at h1;cases x<;>simp only [seq']<;>first|exact ⟨h1,h.2⟩|skip
  ·split
   ·exact h2
   ·exact h1
  ·split
   ·exact gs _ _ h2 h1.2
   ·exact h1
 |stack a c=>intro h;rw [zmo];exact gs _ _ (ih a (by rw [zcx];omega) h.1) h.2
 |going a b=>
  intro h;have h1:=ih a (by rw [zca];omega) h.1;rw [zns];generalize a.st=x at h1;cases x<;>simp only [qcq]<;>first|exact ⟨h1,h.2⟩|skip
  split
  ·exact ⟨q1,h.2⟩
  ·exact ⟨h1,trivial⟩
 |par a b=>
  intro h;have h1:=ih a (by rw [zbv];omega) h.1;have h2:=ih b (by rw [zbv];omega) h.2;rw [zpx];generalize a.st=x at h1;generalize b.st=y at h2;unfold par';split
  ·exact qb _ _ h1 h2
  ·exact ⟨qb _ _ h1.1 h2.1,h1.2,h2.2⟩
  ·exact ⟨h1,h2⟩
 |block a=>
  intro h;have h1:=ih a (by rw [zav];omega) h;have hsz:=a.zcd;rw [znt];generalize a.st=x at h1 hsz;cases x<;>simp only [block']<;>first|exact h1|skip
  rename_i s c;split
  ·exact q1
  ·split
   ·exact ih c (by rw [zav];rw [zcn] at hsz;omega) h1.2
   ·exact h1
theorem zvf {m:Tm} (h:m.fine):m.st.fine:=xgf (by decide) (by decide) (fun a b ha hb=>xil ha hb) m h
end Tm
end Go.Rd
namespace Go.Proofs.YtjolkdjkhekbnaaGreatDoor.Sv
open Go Go.Sv Go.Rd
theorem qtg [Dfr] (m:Tm) {n:Nd} (h:m.t= .n0 n) (hs:m.size≤100000):zgr m.row=some []:=by rw [zjq _ (by rw [Tm.zab];omega),qdz,h];rfl
theorem yqq [Dfr] (m:Tm) {n:Nd} {a:Tm} (h:m.t= .n1 n a.t) (hs:m.size≤100000):zgr m.row=some [a.row]:=by rw [zjq _ (by rw [Tm.zab];omega),qdz,h];rfl
theorem qgu [Dfr] (m:Tm) {n:Nd} {a b:Tm} (h:m.t= .n2 n a.t b.t) (hs:m.size≤100000):zgr m.row=some [a.row,b.row]:=by rw [zjq _ (by rw [Tm.zab];omega),qdz,h];rfl
theorem qxk [Dfr] (m:Tm) {n:Nd} (h:m.t= .n0 n) (hs:m.size≤100000):zfd m.row=some []:=by rw [zkq _ (by rw [Tm.zab];omega),qdz,h];rfl
theorem ynd [Dfr] (m:Tm) {n:Nd} {a:Tm} (h:m.t= .n1 n a.t) (hs:m.size≤100000):zfd m.row=some [a.row]:=by rw [zkq _ (by rw [Tm.zab];omega),qdz,h];rfl
theorem qms [Dfr] (m:Tm) {n:Nd} {a b:Tm} (h:m.t= .n2 n a.t b.t) (hs:m.size≤100000):zfd m.row=some [a.row,b.row]:=by rw [zkq _ (by rw [Tm.zab];omega),qdz,h];rfl
theorem zwn [Dfr] (x:Int):zst x=some (on x):=by
 rw [ypd];by_cases h1:x=1; · subst h1;rfl
 by_cases h2:x=2; · subst h2;rfl
 simp only [beq_false_of_ne h1,beq_false_of_ne h2,cond_false,on,h1,h2,or_self,if_false]
theorem yjc [Dfr] (x y:Int):qic x y=some (both x y):=by
 rw [yel];simp only [zwn,Option.bind_some,both];by_cases h:on x=on y
 ·have:(on x != on y)=false:=by simp [h]
  rw [this,if_pos h];rfl
 ·have:(on x != on y)=true:=by simp [h]
  rw [this,if_neg h];rfl
theorem qzz [Dfr] (x y z:Int):zsu x y z=some (behind x y z):=by
 rw [qve];simp only [zwn,Option.bind_some,behind];by_cases h:y=z
 ·have:(y != z)=false:=by simp [h]
  rw [this,if_pos h,cond_false];by_cases h':on x=on z
  ·have:(on x != on z)=false:=by simp [h']
   rw [this,if_pos h'];rfl
  ·have:(on x != on z)=true:=by simp [h']
   rw [this,if_neg h'];rfl
 ·have:(y != z)=true:=by simp [h]
  rw [this,if_neg h];rfl
theorem ysw [Dfr] (l a b:List Nd) {x y:Int} (ha:zgn a=some x) (hb:zgn b=some y):zng l 0 [] [a,b] (([a,b]:List (List Nd)).length:Int) 0=some (if x=0 then (1,(l,0,[])) else if y=0 then (1,(l,0,[x])) else (0,(l,0,[x,y]))):=by
 rw [zhy];simp only [show decide ((0:Int)<(([a,b]:List (List Nd)).length:Int))=true from rfl,show zaa 0 ([a,b]:List (List Nd)).length=true from rfl,cond_true,show ix [a,b] 0=a from rfl,ha,Option.bind_some];by_cases h:x=0
 ·simp [h]
 ·simp only [beq_false_of_ne h,cond_false,if_neg h,room (show (([]:List Int).length+1)*8≤140737488355328 by decide),cond_true,List.nil_append];rw [zhy];simp only [show decide (w64 (0+1)<(([a,b]:List (List Nd)).length:Int))=true from rfl,show zaa (w64 (0+1)) ([a,b]:List (List Nd)).length=true from rfl,cond_true,show ix [a,b] (w64 (0+1))=b from rfl,hb,Option.bind_some];by_cases h':y=0
  ·simp [h']
  ·simp only [beq_false_of_ne h',cond_false,if_neg h',room (show (([x]:List Int).length+1)*8≤140737488355328 by simp),cond_true];rw [zhy];rfl
theorem yek [Dfr] (l a:List Nd) {x:Int} (ha:zgn a=some x):zng l 0 [] [a] (([a]:List (List Nd)).length:Int) 0=some (if x=0 then (1,(l,0,[])) else (0,(l,0,[x]))):=by
 rw [zhy];simp only [show decide ((0:Int)<(([a]:List (List Nd)).length:Int))=true from rfl,show zaa 0 ([a]:List (List Nd)).length=true from rfl,cond_true,show ix [a] 0=a from rfl,ha,Option.bind_some];by_cases h:x=0
 ·simp [h]
 ·simp only [beq_false_of_ne h,cond_false,if_neg h,room (show (([]:List Int).length+1)*8≤140737488355328 by decide),cond_true,List.nil_append];rw [zhy];rfl
theorem ysx [Dfr] (l:List Nd):zng l 0 [] [] (([]:List (List Nd)).length:Int) 0=some (0,(l,0,[])):=by rw [zhy];rfl
theorem zyb [Dfr] {m a b:Tm} {k x y:Int} (hk:k=5∨k=6∨k=7∨k=8∨k=10∨k=12∨k=13) (h:m.t= .n2 (nd k) a.t b.t) (hs:m.size≤100000) (ha:zgn a.row=some x) (hb:zgn b.row=some y):zgn m.row=some (so2 k x y):=by
 rw [zuf,qgu m h hs];simp only [Option.bind_some,ysw m.row a.row b.row ha hb];by_cases h0:x=0
 ·simp [h0,so2,Nat.beq]
 by_cases h1:y=0
 ·simp [h0,h1,so2,Nat.beq]
 have hrow:m.row=nd k::(a.row++b.row):=by unfold Tm.row;rw [h];rfl
 have hid:zaa 0 m.row.length=true:=by rw [hrow];exact zax (by simp)
 have hix:(ix m.row 0).1=k:=by rw [hrow];rfl
 simp only [if_neg h0,if_neg h1,Nat.beq_refl,cond_true,hid,hix,yjc,qzz,zwn,show zaa 0 ([x,y]:List Int).length=true from rfl,show zaa 1 ([x,y]:List Int).length=true from rfl,show ix [x,y] 0=x from rfl,show ix [x,y] 1=y from rfl,Option.bind_some,int_eq];unfold so2;rw [if_neg h0,if_neg h1];rcases hk with rfl|rfl|rfl|rfl|rfl|rfl|rfl
 ·rfl
 ·by_cases c1:x>2<;>by_cases c2:y>2<;>simp [c1,c2]
 ·rfl
 ·rfl
 ·by_cases c1:x=1<;>by_cases c2:y=1<;>simp [c1,c2]
 ·by_cases c1:on x=3<;>by_cases c2:y=1<;>simp [c1,c2]
 ·by_cases c1:on x=4<;>by_cases c2:y=1<;>simp [c1,c2]
theorem ysv [Dfr] {a:Tm} {x:Int} (hs:(Tm.block a).size≤100000) (hx:0≤x∧x≤4) (ha:zgn a.row=some x):zgn (Tm.block a).row=some (so1 9 x):=by
 rw [zuf,yqq (.block a) rfl hs];simp only [Option.bind_some,yek (Tm.block a).row a.row ha];by_cases h0:x=0
 ·simp [h0,so1,Nat.beq]
 have hid:zaa 0 (Tm.block a).row.length=true:=by rw [Tm.zxa];exact zax (by simp)
 have hix:(ix (Tm.block a).row 0).1=9:=rfl;simp only [if_neg h0,Nat.beq_refl,cond_true,hid,hix,zwn,show zaa 0 ([x]:List Int).length=true from rfl,show ix [x] 0=x from rfl,Option.bind_some,int_eq];unfold so1;rw [if_neg h0];rw [zgz (by omega) (by omega)];by_cases c1:on x=4<;>simp [c1]
theorem ypc [Dfr] {a:Tm} {s x:Int} (hs:(Tm.fin s a).size≤100000) (ha:zgn a.row=some x):zgn (Tm.fin s a).row=some (so1 14 x):=by
 rw [zuf,yqq (.fin s a) rfl hs];simp only [Option.bind_some,yek (Tm.fin s a).row a.row ha];by_cases h0:x=0
 ·simp [h0,so1,Nat.beq]
 have hid:zaa 0 (Tm.fin s a).row.length=true:=by rw [Tm.qrn];exact zax (by simp)
 have hix:(ix (Tm.fin s a).row 0).1=14:=rfl;simp only [if_neg h0,Nat.beq_refl,cond_true,hid,hix,zwn,show zaa 0 ([x]:List Int).length=true from rfl,show ix [x] 0=x from rfl,Option.bind_some,int_eq];unfold so1;rw [if_neg h0];by_cases c1:x=1<;>simp [c1]
theorem qbb [Dfr] {m:Tm} {n:Nd} (h:m.t= .n0 n) (hk:n.1=1∨n.1=2∨n.1=3∨n.1=4∨n.1=11):zgn m.row=some (if n.1=11 then 3 else 1):=by
 have hs:m.size≤100000:=by unfold Tm.size;rw [h];simp [T.size]
 have hrow:m.row=[n]:=by unfold Tm.row;rw [h];rfl
 rw [zuf,qtg m h hs];simp only [Option.bind_some,ysx,Nat.beq_refl,cond_true];rw [hrow];simp only [show zaa 0 ([n]:List Nd).length=true from rfl,show ix [n] 0=n from rfl,cond_true];rcases hk with e|e|e|e|e<;>rw [e]<;>rfl
theorem yjb [Dfr] (m:Tm) (hs:m.size≤100000):zgn m.row=some m.so:=by
 induction m with
 |act s=>rw [qbb (m:=.act s) rfl (.inl rfl)];rfl
 |skip=>rw [qbb (m:=.skip) rfl (.inr (.inl rfl))];rfl
 |throw=>rw [qbb (m:=.throw) rfl (.inr (.inr (.inl rfl)))];rfl
 |yield=>rw [qbb (m:=.yield) rfl (.inr (.inr (.inr (.inl rfl))))];rfl
 |over s=>rw [qbb (m:=.over s) rfl (.inr (.inr (.inr (.inr rfl))))];rfl
 |block a ih=>rw [ysv hs a.yzy (ih (by rw [Tm.zav] at hs;omega)),Tm.xaa]
 |fin s a ih=>rw [ypc hs (ih (by rw [Tm.zcn] at hs;omega)),Tm.xjp]
 |seq a b iha ihb=>rw [zyb (m:=.seq a b) (by simp) rfl hs (iha (by rw [Tm.zbf] at hs;omega)) (ihb (by rw [Tm.zbf] at hs;omega)),Tm.xjm]
 |alt a b iha ihb=>rw [zyb (m:=.alt a b) (by simp) rfl hs (iha (by rw [Tm.zuh] at hs;omega)) (ihb (by rw [Tm.zuh] at hs;omega)),Tm.xjq]
 |par a b iha ihb=>rw [zyb (m:=.par a b) (by simp) rfl hs (iha (by rw [Tm.zbv] at hs;omega)) (ihb (by rw [Tm.zbv] at hs;omega)),Tm.xjo]
 |hand a b iha ihb=>rw [zyb (m:=.hand a b) (by simp) rfl hs (iha (by rw [Tm.zbk] at hs;omega)) (ihb (by rw [Tm.zbk] at hs;omega)),Tm.xgj]
 |pair a b iha ihb=>rw [zyb (m:=.pair a b) (by simp) rfl hs (iha (by rw [Tm.zwx] at hs;omega)) (ihb (by rw [Tm.zwx] at hs;omega)),Tm.xgi]
 |going a b iha ihb=>rw [zyb (m:=.going a b) (by simp) rfl hs (iha (by rw [Tm.zca] at hs;omega)) (ihb (by rw [Tm.zca] at hs;omega)),Tm.yzz]
 |stack a b iha ihb=>rw [zyb (m:=.stack a b) (by simp) rfl hs (iha (by rw [Tm.zcx] at hs;omega)) (ihb (by rw [Tm.zcx] at hs;omega)),Tm.yzx]
theorem yeo [Dfr] (l:List Nd) (hl:l.length≤4611686018427387904):qqp l=some (sOf l):=by
 rw [ypf,yjk l hl,qwz];unfold sOf;simp only [Option.bind_some];cases h:tmOf l with
 |none=>rfl
 |some m=>obtain ⟨rfl,h2,h3⟩:=zjg.1 h;simp only [Option.isSome_some,Bool.not_true,cond_false,yjb m (by omega),Option.bind_some]
theorem qqo [Dfr] (l:List Nd) (b:Bool) (hl:l.length≤4611686018427387904):qkt l b=some (decide (on (sOf l)=if b then 4 else 3)):=by rw [ype];cases b<;>simp only [yeo l hl,zwn,Option.bind_some,cond_true,cond_false,int_eq,if_true,if_false]<;>rfl
theorem yjd [Dfr] (l:List Nd) (hl:l.length≤4611686018427387904):qqn l=some (decide (sOf l=1)):=by rw [yem];simp only [yeo l hl,Option.bind_some,int_eq]
noncomputable def zzz (l:List Nd):Bool:=decide (sOf l=1)&&(decide (l.length≤60)&&decide (dep l≤16))
theorem yen [Dfr] (l:List Nd) (hl:l.length≤4611686018427387904):qks l=some (zzz l):=by
 rw [yaa];unfold zzz;simp only [yjd l hl,Option.bind_some];by_cases h1:sOf l=1
 ·by_cases h2:l.length≤60
  ·have e:decide ((l.length:Int)≤60)=true:=decide_eq_true (by omega);simp only [h1,decide_true,cond_true,e,yjr l (by omega),Option.bind_some,h2,Bool.true_and]
   congr 1
   rw [decide_eq_decide];omega
  ·have e:decide ((l.length:Int)≤60)=false:=decide_eq_false (by omega);simp only [h1,decide_true,cond_true,e,cond_false,h2,decide_false,Bool.false_and,Bool.and_false]
 ·simp only [h1,decide_false,cond_false,Bool.false_and]
theorem xci [Dfr] (l:List Nd) (ks:List (List Nd)) (h:zfd l=some ks) {p q po qo:Bool} (h1:zoz l ks=some p) (h2:zno l ks=some q) (h3:zoc l ks=some po) (h4:zmf l ks=some qo):
 zas l 1=some p∧zas l 2=some q∧zas l 3=some (p||po)∧zas l 4=some (q||qo):=by
 refine ⟨?_,?_,?_,?_⟩<;>rw [yjz,h]<;>simp only [Option.bind_some,h1,h2,h3,h4]
 ·rfl
 ·rfl
 ·cases p<;>rfl
 ·cases q<;>rfl
def IsS [Dfr] (m:Tm):Prop:=zas m.row 1=some m.pl∧zas m.row 2=some m.pa∧zas m.row 3=some m.po∧zas m.row 4=some m.qo
theorem qth [Dfr] {m:Tm} {n:Nd} (h:m.t= .n0 n) {p po:Bool} (hp:m.pl=p) (hpo:m.po=(p||po)) (hpa:m.pa=false) (hqo:m.qo=false) (h1:zoz [n] []=some p) (h2:zno [n] []=some false) (h3:zoc [n] []=some po) (h4:zmf [n] []=some false):IsS m:=by
 have hs:m.size≤100000:=by unfold Tm.size;rw [h];simp [T.size]
 have hrow:m.row=[n]:=by unfold Tm.row;rw [h];rfl
 unfold IsS;have hk:=qxk m h hs;rw [hrow] at hk ⊢;have:=xci [n] [] hk h1 h2 h3 h4;rw [hp,hpo,hpa,hqo];exact this
theorem xhv [Dfr] {a:Tm} (hs:(Tm.block a).size≤100000) (ha:IsS a):IsS (.block a):=by
 obtain ⟨a1,a2,a3,a4⟩:=ha;have hid:zaa 0 (Tm.block a).row.length=true:=by rw [Tm.zxa];exact zax (by simp)
 have hix:(ix (Tm.block a).row 0).1=9:=rfl;have:=xci (Tm.block a).row [a.row] (ynd (.block a) rfl hs) (p:=a.pa) (q:=false) (po:=a.qo) (qo:=false)
  (by rw [zgl];simp only [hid,hix,cond_true,show ix [a.row] 0=a.row from rfl,show zaa 0 [a.row].length=true from rfl,a2,Option.bind_some];rfl)
  (by rw [zfq];simp only [hid,hix,cond_true];rfl)
  (by rw [zes];simp only [hid,hix,cond_true,show ix [a.row] 0=a.row from rfl,show zaa 0 [a.row].length=true from rfl,a4,Option.bind_some];rfl)
  (by rw [zdz];simp only [hid,hix,cond_true];rfl)
 refine ⟨this.1,this.2.1,this.2.2.1.trans ?_,this.2.2.2⟩;have hq:= @Tm.zja a;show _=some a.qo;cases h1:a.pa with
 |true=>rw [hq h1];rfl
 |false=>rfl
theorem xch [Dfr] {a:Tm} {s:Int} (hs:(Tm.fin s a).size≤100000) (ha:IsS a):IsS (.fin s a):=by
 obtain ⟨a1,a2,a3,a4⟩:=ha;have hid:zaa 0 (Tm.fin s a).row.length=true:=by rw [Tm.qrn];exact zax (by simp)
 have hix:(ix (Tm.fin s a).row 0).1=14:=rfl;have:=xci (Tm.fin s a).row [a.row] (ynd (.fin s a) rfl hs) (p:=false) (q:=false) (po:=false) (qo:=a.pl)
  (by rw [zgl];simp only [hid,hix,cond_true];rfl)
  (by rw [zfq];simp only [hid,hix,cond_true];rfl)
  (by rw [zes];simp only [hid,hix,cond_true];rfl)
  (by rw [zdz];simp only [hid,hix,cond_true,show ix [a.row] 0=a.row from rfl,show zaa 0 [a.row].length=true from rfl,a1,Option.bind_some];rfl)
 exact this
theorem qti [Dfr] {m a b:Tm} {k:Int} (hk:k=5∨k=6∨k=7∨k=8∨k=10∨k=12∨k=13) (h:m.t= .n2 (nd k) a.t b.t) (hs:m.size≤100000) (ha:IsS a) (hb:IsS b):IsS m:=by
 obtain ⟨a1,a2,a3,a4⟩:=ha;obtain ⟨b1,b2,b3,b4⟩:=hb;have hrow:m.row=nd k::(a.row++b.row):=by unfold Tm.row;rw [h];rfl
 have hid:zaa 0 m.row.length=true:=by rw [hrow];exact zax (by simp)
 have hix:(ix m.row 0).1=k:=by rw [hrow];rfl
 have i0:ix [a.row,b.row] 0=a.row:=rfl;have i1:ix [a.row,b.row] 1=b.row:=rfl;have j0:zaa 0 [a.row,b.row].length=true:=rfl;have j1:zaa 1 [a.row,b.row].length=true:=rfl;have g1:zoz m.row [a.row,b.row]=some (decide (k=5∨k=6∨k=7∨k=8)&&(a.pl&&b.pl)):=by rw [zgl];simp only [hid,hix,i0,i1,j0,j1,cond_true,a1,b1,Option.bind_some];rcases hk with rfl|rfl|rfl|rfl|rfl|rfl|rfl<;>first|(cases a.pl<;>cases b.pl<;>rfl)|rfl
 have g2:zno m.row [a.row,b.row]=some (if k=10 then a.pl&&b.pl else decide (k=5∨k=6∨k=7)&&(a.pa&&b.pa)):=by rw [zfq];simp only [hid,hix,i0,i1,j0,j1,cond_true,a1,b1,a2,b2,Option.bind_some];rcases hk with rfl|rfl|rfl|rfl|rfl|rfl|rfl<;>first|(cases a.pa<;>cases b.pa<;>rfl)|(cases a.pl<;>cases b.pl<;>rfl)|rfl
 have g3:zoc m.row [a.row,b.row]=some (if k=7 then a.po&&b.po else decide (k=5∨k=8)&&(a.po&&b.pl)):=by rw [zes];simp only [hid,hix,i0,i1,j0,j1,cond_true,a3,b1,b3,Option.bind_some];rcases hk with rfl|rfl|rfl|rfl|rfl|rfl|rfl<;>first|(cases a.po<;>cases b.pl<;>rfl)|(cases a.po<;>cases b.po<;>rfl)|rfl
 have g4:zmf m.row [a.row,b.row]=some (if k=12 then a.po&&b.pl else if k=5 then a.qo&&b.pa else if k=7 then a.qo&&b.qo else decide (k=13)&&(a.qo&&b.pl)):=by rw [zdz];simp only [hid,hix,i0,i1,j0,j1,cond_true,a3,b1,a4,b2,b4,Option.bind_some];rcases hk with rfl|rfl|rfl|rfl|rfl|rfl|rfl<;>first|(cases a.po<;>cases b.pl<;>rfl)|(cases a.qo<;>cases b.pl<;>rfl)|(cases a.qo<;>cases b.qo<;>rfl)|(cases a.qo<;>cases b.pa<;>rfl)|rfl
 have:=xci m.row [a.row,b.row] (qms m h hs) g1 g2 g3 g4;have hm:m=(if k=5 then .seq a b else if k=6 then .alt a b else if k=7 then .par a b else if k=8 then .hand a b else if k=10 then .pair a b else if k=12 then .going a b else .stack a b):=by apply Tm.qal;rw [h];rcases hk with rfl|rfl|rfl|rfl|rfl|rfl|rfl<;>rfl
 have pa1:= @Tm.zcg a;have pa2:= @Tm.zja a;have pb1:= @Tm.zcg b;have pb2:= @Tm.zja b;unfold IsS;rw [this.1,this.2.1,this.2.2.1,this.2.2.2,hm];rcases hk with rfl|rfl|rfl|rfl|rfl|rfl|rfl
 ·refine ⟨rfl,rfl,?_,?_⟩
  ·show some ((a.pl&&b.pl)||(a.po&&b.pl))=some (a.po&&b.pl);cases h1:a.pl<;>cases h2:b.pl<;>simp_all
  ·show some ((a.pa&&b.pa)||(a.qo&&b.pa))=some (a.qo&&b.pa);cases h1:a.pa<;>cases h2:b.pa<;>simp_all
 ·refine ⟨rfl,rfl,?_,?_⟩
  ·show some ((a.pl&&b.pl)||false)=some (a.pl&&b.pl);rw [Bool.or_false]
  ·show some ((a.pa&&b.pa)||false)=some (a.pa&&b.pa);rw [Bool.or_false]
 ·refine ⟨rfl,rfl,?_,?_⟩
  ·show some ((a.pl&&b.pl)||(a.po&&b.po))=some (a.po&&b.po);cases h1:a.pl<;>cases h2:b.pl<;>simp_all
  ·show some ((a.pa&&b.pa)||(a.qo&&b.qo))=some (a.qo&&b.qo);cases h1:a.pa<;>cases h2:b.pa<;>simp_all
 ·refine ⟨rfl,rfl,?_,rfl⟩;show some ((a.pl&&b.pl)||(a.po&&b.pl))=some (a.po&&b.pl);cases h1:a.pl<;>cases h2:b.pl<;>simp_all
 ·refine ⟨rfl,rfl,rfl,?_⟩;show some ((a.pl&&b.pl)||false)=some (a.pl&&b.pl);rw [Bool.or_false]
 ·exact ⟨rfl,rfl,rfl,rfl⟩
 ·exact ⟨rfl,rfl,rfl,rfl⟩
theorem is_s [Dfr] (m:Tm) (hs:m.size≤100000):IsS m:=by
 induction m with
 |act s=>exact qth (m:=.act s) rfl (p:=true) (po:=false) rfl rfl rfl rfl (by rw [zgl];rfl) (by rw [zfq];rfl) (by rw [zes];rfl) (by rw [zdz];rfl)
 |skip=>exact qth (m:=.skip) rfl (p:=true) (po:=false) rfl rfl rfl rfl (by rw [zgl];rfl) (by rw [zfq];rfl) (by rw [zes];rfl) (by rw [zdz];rfl)
 |throw=>exact qth (m:=.throw) rfl (p:=true) (po:=false) rfl rfl rfl rfl (by rw [zgl];rfl) (by rw [zfq];rfl) (by rw [zes];rfl) (by rw [zdz];rfl)
 |yield=>exact qth (m:=.yield) rfl (p:=true) (po:=false) rfl rfl rfl rfl (by rw [zgl];rfl) (by rw [zfq];rfl) (by rw [zes];rfl) (by rw [zdz];rfl)
 |over s=>exact qth (m:=.over s) rfl (p:=false) (po:=true) rfl rfl rfl rfl (by rw [zgl];rfl) (by rw [zfq];rfl) (by rw [zes];rfl) (by rw [zdz];rfl)
 |block a ih=>exact xhv hs (ih (by rw [Tm.zav] at hs;omega))
 |fin s a ih=>exact xch hs (ih (by rw [Tm.zcn] at hs;omega))
 |seq a b iha ihb=>exact qti (m:=.seq a b) (k:=5) (by simp) rfl hs (iha (by rw [Tm.zbf] at hs;omega)) (ihb (by rw [Tm.zbf] at hs;omega))
 |alt a b iha ihb=>exact qti (m:=.alt a b) (k:=6) (by simp) rfl hs (iha (by rw [Tm.zuh] at hs;omega)) (ihb (by rw [Tm.zuh] at hs;omega))
 |par a b iha ihb=>exact qti (m:=.par a b) (k:=7) (by simp) rfl hs (iha (by rw [Tm.zbv] at hs;omega)) (ihb (by rw [Tm.zbv] at hs;omega))
 |hand a b iha ihb=>exact qti (m:=.hand a b) (k:=8) (by simp) rfl hs (iha (by rw [Tm.zbk] at hs;omega)) (ihb (by rw [Tm.zbk] at hs;omega))
 |pair a b iha ihb=>exact qti (m:=.pair a b) (k:=10) (by simp) rfl hs (iha (by rw [Tm.zwx] at hs;omega)) (ihb (by rw [Tm.zwx] at hs;omega))
 |going a b iha ihb=>exact qti (m:=.going a b) (k:=12) (by simp) rfl hs (iha (by rw [Tm.zca] at hs;omega)) (ihb (by rw [Tm.zca] at hs;omega))
 |stack a b iha ihb=>exact qti (m:=.stack a b) (k:=13) (by simp) rfl hs (iha (by rw [Tm.zcx] at hs;omega)) (ihb (by rw [Tm.zcx] at hs;omega))
theorem qxo [Dfr] (l:List Nd) (hl:l.length≤4611686018427387904) (hn:∀n∈l,n.2.1.size≤9223372036854775807):qoy l=some (sOf l):=by
 rw [yjy,ybo l hl hn,qwz];unfold sOf;simp only [Option.bind_some];cases h:tmOf l with
 |none=>rfl
 |some m=>
  obtain ⟨rfl,h2,h3⟩:=zjg.1 h;obtain ⟨k1,k2,k3,k4⟩:=is_s m (by omega);simp only [Option.isSome_some,Bool.not_true,cond_false];rw [zmg];simp only [show decide ((1:Int)≤4)=true from rfl,cond_true,k1,Option.bind_some];rcases Tm.cls m with ⟨e,e1,e2,e3,e4⟩|⟨e,e1,e2,e3,e4⟩|⟨e,e1,e2,e3,e4⟩|⟨e,e1,e2,e3,e4⟩|⟨e,e1,e2,e3,e4⟩
  ·rw [e1,e];rfl
  all_goals
   rw [e1,cond_false,show w64 (1+1)=2 from rfl,zmg];simp only [show decide ((2:Int)≤4)=true from rfl,cond_true,k2,Option.bind_some]
  ·rw [e2,e];rfl
  all_goals
   rw [e2,cond_false,show w64 (2+1)=3 from rfl,zmg];simp only [show decide ((3:Int)≤4)=true from rfl,cond_true,k3,Option.bind_some]
  ·rw [e3,e];rfl
  all_goals
   rw [e3,cond_false,show w64 (3+1)=4 from rfl,zmg];simp only [show decide ((4:Int)≤4)=true from rfl,cond_true,k4,Option.bind_some]
  ·rw [e4,e];rfl
  ·rw [e4,cond_false,show w64 (4+1)=5 from rfl,zmg,e];rfl
theorem ybm [Dfr] (l:List Nd) (hl:l.length≤4611686018427387904) (hn:∀n∈l,n.2.1.size≤9223372036854775807):qgl l=some (zzz l):=by
 rw [qvr];unfold zzz;simp only [qxo l hl hn,Option.bind_some,int_eq];by_cases h1:sOf l=1
 ·by_cases h2:l.length≤60
  ·have e:decide ((l.length:Int)≤60)=true:=decide_eq_true (by omega);simp only [h1,decide_true,cond_true,e,qit l (by omega),Option.bind_some,h2,Bool.true_and]
   congr 1
   rw [decide_eq_decide];omega
  ·have e:decide ((l.length:Int)≤60)=false:=decide_eq_false (by omega);simp only [h1,decide_true,cond_true,e,cond_false,h2,decide_false,Bool.false_and,Bool.and_false]
 ·simp only [h1,decide_false,cond_false,Bool.false_and]
end Go.Proofs.YtjolkdjkhekbnaaGreatDoor.Sv
namespace Go.Rd
open Go Go.Sv
def wfNd (n:Nd):Prop:=(Lit.int .i64 n.1).wf=true∧n.2.1.size≤reachBytes∧(Lit.int .i64 n.2.2).wf=true
def yis (l:List Nd):Prop:=l.length≤reachBytes∧∀x∈l,wfNd x
theorem yis.names {l:List Nd} (h:yis l):∀n∈l,n.2.1.size≤9223372036854775807:=fun n hn=>by have:=(h.2 n hn).2.1;unfold reachBytes at this;omega
namespace Tm
def zhq:Tm→Bool
 |over _=>true
 |_=>false
def isFin:Tm→Bool
 |fin _ _=>true
 |_=>false
theorem qbg {a b:Tm} (h:(hand a b).settled):a.settled∧a.zhq=false:=by
 unfold settled at h ⊢;rw [zve] at h;have hb:=b.zcd;generalize hx:a.st=x at h;cases x<;>simp only [hand'] at h<;>first|(injection h with h1 h2;subst h1;exact ⟨rfl,rfl⟩)|skip
 split at h
 ·have:=congrArg size h;rw [zbk] at this;omega
 ·cases h
theorem qga {a b:Tm} (h:(seq a b).settled):a.settled∧a.zhq=false∧a.isFin=false:=by
 unfold settled at h ⊢;rw [zzy] at h;have hb:=b.zcd;generalize hx:a.st=x at h;cases x<;>simp only [seq'] at h<;>first|(injection h with h1 h2;subst h1;exact ⟨rfl,rfl,rfl⟩)|skip
 ·split at h
  ·have:=congrArg size h;rw [zbf] at this;omega
  ·cases h
 ·split at h
  ·generalize b.st=y at h;cases y<;>simp only [zlm] at h<;>cases h
  ·cases h
theorem zyk {a b:Tm} (h:(going a b).settled):a.settled∧a.zhq=false:=by
 unfold settled at h ⊢;rw [zns] at h;generalize hx:a.st=x at h;cases x<;>simp only [qcq] at h<;>first|(injection h with h1 h2;subst h1;exact ⟨rfl,rfl⟩)|skip
 split at h<;>cases h
theorem zyi {a b:Tm} (h:(stack a b).settled):a.settled∧a.isFin=false:=by unfold settled at h ⊢;rw [zmo] at h;generalize hx:a.st=x at h;cases x<;>simp only [zlm] at h<;>first|(injection h with h1 h2;subst h1;exact ⟨rfl,rfl⟩)|cases h
theorem zyj {a b:Tm} (h:(par a b).settled):a.settled∧b.settled∧(a.zhq=false∨b.zhq=false)∧(a.isFin=false∨b.isFin=false):=by
 unfold settled at h ⊢;rw [zpx] at h;rcases zpb a.st b.st with ⟨s,z,_,_,e⟩|⟨s,c,z,d,_,_,e⟩|e
 ·rw [e] at h;cases h
 ·rw [e] at h;cases h
 ·have h0:=h;rw [e] at h;injection h with h1 h2;refine ⟨h1,h2,?_,?_⟩
  ·cases ha:a.zhq with
   |false=>exact .inl rfl
   |true=>
    cases hb:b.zhq with
    |false=>exact .inr rfl
    |true=>exfalso;rw [h1,h2] at h0;cases a<;>cases ha;cases b<;>cases hb;cases h0
  ·cases ha:a.isFin with
   |false=>exact .inl rfl
   |true=>
    cases hb:b.isFin with
    |false=>exact .inr rfl
    |true=>exfalso;rw [h1,h2] at h0;cases a<;>cases ha;cases b<;>cases hb;cases h0
theorem zyl {a:Tm} (h:(block a).settled):a.settled∧(∀s c,a=fin s c→s≠1∧s≠2):=by
 unfold settled at h ⊢;rw [znt] at h;have hsz:=a.zcd;generalize hx:a.st=x at h hsz;cases x<;>simp only [block'] at h<;>first|(injection h with h1;subst h1;exact ⟨rfl,fun s c e=>by cases e⟩)|skip
 rename_i s c;split at h
 ·cases h
 ·split at h
  ·have h3:=congrArg size h;have h4:=c.zcd;rw [zcn] at hsz;rw [zav] at h3;omega
  ·rename_i h1 h2;injection h with h3;subst h3;exact ⟨rfl,fun s' c' e=>by injection e with e1 _;rw [←e1];exact ⟨h1,h2⟩⟩
def waits:Tm→Bool
 |act _|alt _ _|yield|pair _ _=>true
 |seq a _|hand a _|going a _|stack a _|block a=>a.waits
 |par a b=>a.waits||b.waits
 |_=>false
def stuck:Tm→Bool
 |block a=>(match a with|fin s _=>decide (s=3)|_=>false)||a.stuck
 |seq a _|hand a _|going a _|stack a _=>a.stuck
 |par a b=>a.stuck||b.stuck
 |_=>false
theorem yer:∀m:Tm,m.settled→m.fine→(m.po=true∨m.qo=true)→m.waits=true∨m.zhq=true∨m.isFin=true∨m.stuck=true:=by
 intro m
 induction m with
 |act s|yield|alt a b _ _|pair a b _ _=>intro _ _ _;exact .inl rfl
 |skip=>intro h;unfold settled at h;rw [zsr] at h;cases h
 |throw=>intro h;unfold settled at h;rw [zpj] at h;cases h
 |over s=>intro _ _ _;exact .inr (.inl rfl)
 |fin s a _=>intro _ _ _;exact .inr (.inr (.inl rfl))
 |hand a b iha ihb=>
  intro h hf ho;obtain ⟨h1,h2⟩:=qbg h;have hp:a.po=true:=by
   rcases ho with h|h
   ·simp only [po,Bool.and_eq_true] at h;exact h.1
   ·cases h
  rcases iha h1 hf.1 (.inl hp) with k|k|k|k
  ·exact .inl k
  ·rw [h2] at k;cases k
  ·cases a<;>first|(cases k;done)|(cases hp;done)
  ·exact .inr (.inr (.inr k))
 |seq a b iha ihb=>
  intro h hf ho;obtain ⟨h1,h2,h3⟩:=qga h;have hp:a.po=true∨a.qo=true:=by
   rcases ho with h|h
   ·simp only [po,Bool.and_eq_true] at h;exact .inl h.1
   ·simp only [qo,Bool.and_eq_true] at h;exact .inr h.1
  rcases iha h1 hf.1 hp with k|k|k|k
  ·exact .inl k
  ·rw [h2] at k;cases k
  ·rw [h3] at k;cases k
  ·exact .inr (.inr (.inr k))
 |going a b iha ihb=>
  intro h hf ho;obtain ⟨h1,h2⟩:=zyk h;have hp:a.po=true:=by
   rcases ho with h|h
   ·cases h
   ·simp only [qo,Bool.and_eq_true] at h;exact h.1
  rcases iha h1 hf.1 (.inl hp) with k|k|k|k
  ·exact .inl k
  ·rw [h2] at k;cases k
  ·cases a<;>first|(cases k;done)|(cases hp;done)
  ·exact .inr (.inr (.inr k))
 |stack a b iha ihb=>
  intro h hf ho;obtain ⟨h1,h2⟩:=zyi h;have hp:a.qo=true:=by
   rcases ho with h|h
   ·cases h
   ·simp only [qo,Bool.and_eq_true] at h;exact h.1
  rcases iha h1 hf.1 (.inr hp) with k|k|k|k
  ·exact .inl k
  ·cases a<;>first|(cases k;done)|(cases hp;done)
  ·rw [h2] at k;cases k
  ·exact .inr (.inr (.inr k))
 |par a b iha ihb=>
  intro h hf ho;obtain ⟨h1,h2,h3,h4⟩:=zyj h;have hp:(a.po=true∧b.po=true)∨(a.qo=true∧b.qo=true):=by
   rcases ho with h|h
   ·simp only [po,Bool.and_eq_true] at h;exact .inl h
   ·simp only [qo,Bool.and_eq_true] at h;exact .inr h
  rcases iha h1 hf.1 (hp.imp (·.1) (·.1)) with k|k|k|k
  ·exact .inl (by simp [waits,k])
  ·rcases ihb h2 hf.2 (hp.imp (·.2) (·.2)) with j|j|j|j
   ·exact .inl (by simp [waits,j])
   ·rw [k,j] at h3;rcases h3 with h3|h3<;>cases h3
   ·rcases hp with hp|hp
    ·cases b<;>first|(cases j;done)|(cases hp.2;done)
    ·cases a<;>first|(cases k;done)|(cases hp.1;done)
   ·exact .inr (.inr (.inr (by simp [stuck,j])))
  ·rcases ihb h2 hf.2 (hp.imp (·.2) (·.2)) with j|j|j|j
   ·exact .inl (by simp [waits,j])
   ·rcases hp with hp|hp
    ·cases a<;>first|(cases k;done)|(cases hp.1;done)
    ·cases b<;>first|(cases j;done)|(cases hp.2;done)
   ·rw [k,j] at h4;rcases h4 with h4|h4<;>cases h4
   ·exact .inr (.inr (.inr (by simp [stuck,j])))
  ·exact .inr (.inr (.inr (by simp [stuck,k])))
 |block a iha=>
  intro h hf ho;obtain ⟨h1,h2⟩:=zyl h;have hp:a.qo=true:=by
   rcases ho with h|h
   ·exact h
   ·cases h
  rcases iha h1 hf (.inr hp) with k|k|k|k
  ·exact .inl k
  ·cases a<;>first|(cases k;done)|(cases hp;done)
  ·cases a<;>first|(cases k;done)|skip
   rename_i s c;have h3:=h2 s c rfl;have h4:zmc s=true:=hf.1;rcases zqb.1 h4 with h5|h5|h5
   ·exact absurd h5 h3.1
   ·exact absurd h5 h3.2
   ·exact .inr (.inr (.inr (by simp [stuck,h5])))
  ·exact .inr (.inr (.inr (by simp [stuck,k])))
def wt (w:Nd→Nat) (m:Tm):Nat:=(m.row.map w).sum
section
variable (w:Nd→Nat)
theorem yrx (a b:Tm):(seq a b).wt w=w (nd 5)+(a.wt w+b.wt w):=by simp [wt,yji]
theorem yry (a b:Tm):(par a b).wt w=w (nd 7)+(a.wt w+b.wt w):=by simp [wt,yap]
theorem yrz (a b:Tm):(hand a b).wt w=w (nd 8)+(a.wt w+b.wt w):=by simp [wt,yaq]
theorem qyw (a:Tm):(block a).wt w=w (nd 9)+a.wt w:=by simp [wt,zxa]
theorem ymn (a b:Tm):(going a b).wt w=w (nd 12)+(a.wt w+b.wt w):=by simp [wt,qrm]
theorem ymm (a b:Tm):(stack a b).wt w=w (nd 13)+(a.wt w+b.wt w):=by simp [wt,qri]
theorem qen (s:Int) (a:Tm):(fin s a).wt w=w (14,ByteArray.empty,s)+a.wt w:=by simp [wt,qrn]
theorem qkm (s:Int):(over s).wt w=w (11,ByteArray.empty,s):=by simp [wt]
theorem xfv:skip.wt w=w (nd 2):=by simp [wt]
structure Light:Prop where
 skip:w (nd 2)=0
 over:∀s,w (11,ByteArray.empty,s)=0
 fin:∀s,w (14,ByteArray.empty,s)=0
 seq:w (nd 5)=0
 stack:w (nd 13)=0
theorem xfu (L:Light w):∀m:Tm,m.st.wt w≤m.wt w:=by
 intro m;refine qde (p:=fun m=>m.st.wt w≤m.wt w) (fun m ih=> ?_) m;have hst:∀x c:Tm,(zlm x c).wt w≤x.wt w+c.wt w:=fun x c=>by
  cases x<;>simp only [zlm]<;>first|(rw [ymm,L.stack];omega)|skip
  rename_i s d;rw [qen,yrx,qen,L.fin,L.seq];omega
 cases m with
 |act s=>rw [qba];exact Nat.le_refl _
 |skip=>rw [zsr,qkm,L.over];omega
 |throw=>rw [zpj,qkm,L.over];omega
 |yield=>rw [zmn];exact Nat.le_refl _
 |over s=>rw [zhx];exact Nat.le_refl _
 |alt a b=>rw [qia];exact Nat.le_refl _
 |pair a b=>rw [zya];exact Nat.le_refl _
 |fin s a=>rw [zre];exact Nat.le_refl _
 |hand a b=>
  have h1:=ih a (by rw [zbk];omega);have h2:=ih b (by rw [zbk];omega);rw [zve,yrz];generalize a.st=x at h1;cases x<;>simp only [hand']<;>first|(rw [yrz];omega)|skip
  split
  ·omega
  ·rw [qkm,L.over];omega
 |seq a b=>
  have h1:=ih a (by rw [zbf];omega);have h2:=ih b (by rw [zbf];omega);rw [zzy,yrx];generalize a.st=x at h1;cases x<;>simp only [seq']<;>first|(rw [yrx];omega)|skip
  ·split
   ·omega
   ·rw [qkm,L.over];omega
  ·rename_i s c;split
   ·rw [qen,L.fin] at h1;have:=hst b.st c;omega
   ·omega
 |stack a c=>have h1:=ih a (by rw [zcx];omega);rw [zmo,ymm];have:=hst a.st c;omega
 |going a b=>
  have h1:=ih a (by rw [zca];omega);rw [zns,ymn];generalize a.st=x at h1;cases x<;>simp only [qcq]<;>first|(rw [ymn];omega)|skip
  split
  ·rw [qen,L.fin];omega
  ·rw [qen,L.fin,xfv,L.skip];omega
 |par a b=>
  have h1:=ih a (by rw [zbv];omega);have h2:=ih b (by rw [zbv];omega);rw [zpx,yry];rcases zpb a.st b.st with ⟨s,z,_,_,e⟩|⟨s,c,z,d,e1,e2,e⟩|e
  ·rw [e,qkm,L.over];omega
  ·rw [e,qen,yry,L.fin];rw [e1,qen,L.fin] at h1;rw [e2,qen,L.fin] at h2;omega
  ·rw [e,yry];omega
 |block a=>
  have h1:=ih a (by rw [zav];omega);have hsz:=a.zcd;rw [znt,qyw];generalize a.st=x at h1 hsz;cases x<;>simp only [block']<;>first|(rw [qyw];omega)|skip
  rename_i s c;rw [qen,L.fin] at h1;split
  ·rw [qkm,L.over];omega
  ·split
   ·have:=ih c (by rw [zav];rw [zcn] at hsz;omega);omega
   ·rw [qyw,qen,L.fin];omega
end
end Tm
def goK (k:Int):Nat:=if k=5∨k=8∨k=12∨k=13∨k=9 then 1 else if k=7 then 2 else 0
def zcw (k:Int):Bool:=decide (k=1∨k=6∨k=4∨k=10)
theorem yny {k:Int} (h:zcw k=true):goK k=0:=by rcases of_decide_eq_true h with rfl|rfl|rfl|rfl<;>rfl
namespace T
def wts:T→Nat→List Nat
 |n0 n,i=>if zcw n.1 then [i] else []
 |n1 n a,i=>if zcw n.1 then [i] else if 0<goK n.1 then a.wts (i+1) else []
 |n2 n a b,i=>if zcw n.1 then [i] else (if 0<goK n.1 then a.wts (i+1) else [])++(if 1<goK n.1 then b.wts (i+1+a.size) else [])
def path:T→Nat→Nat→List (Nat×Nat×T)
 |n0 _,_,_=>[]
 |n1 n a,i,k=>if k=i then [] else (i,0,n1 n a)::a.path (i+1) k
 |n2 n a b,i,k=>if k=i then [] else if k<i+1+a.size then (i,0,n2 n a b)::a.path (i+1) k else (i,1,n2 n a b)::b.path (i+1+a.size) k
theorem zqt (n:Nd) (a:T) (i k:Nat):(n1 n a).path i k=if k=i then [] else (i,0,n1 n a)::a.path (i+1) k:=rfl
theorem zif (n:Nd) (a b:T) (i k:Nat):(n2 n a b).path i k=if k=i then [] else if k<i+1+a.size then (i,0,n2 n a b)::a.path (i+1) k else (i,1,n2 n a b)::b.path (i+1+a.size) k:=rfl
def ovr (t:T) (k:Nat):List Nat:=(t.path 0 k).map (·.1)
def kid (s:T) (j:Nat):List Nd:=match s.kids[j]? with|some c=>c.row|none=>[]
end T
def qei (p:List (Nat×Nat×T)):Bool:=p.any fun x=>decide (goK x.2.2.hd.1≤x.2.1)
theorem ygf (i n m:Nat):List.range' i (n+m+1)=i::(List.range' (i+1) n++List.range' (i+1+n) m):=by rw [show n+m+1=1+(n+m) by omega,←List.range'_append_1 (s:=i) (m:=1) (n:=n+m),←List.range'_append_1 (s:=i+1)];rfl
theorem zzo {α:Type} {p:α→Bool} {l:List α} (h:∀x∈l,p x=false):l.filter p=[]:=by rw [List.filter_eq_nil_iff];intro x hx;rw [h x hx];simp
theorem znd (l:List Nd):∀(t:T) (i:Nat) (r:List Nd),l.drop i=t.row++r→t.wts i=(List.range' i t.size).filter fun k=>zcw (l.getD k default).1&& !qei (t.path i k)
 | .n0 n,i,r,h=>by
   have h0:l.getD i default=n:=by
    have:l[i]? =some n:=by rw [←List.head?_drop,h];rfl
    rw [List.getD_eq_getElem?_getD,this];rfl
   show (if zcw n.1 then [i] else [])=([i].filter _);simp only [List.filter_cons,List.filter_nil,h0,T.path,qei,List.any_nil,Bool.not_false,Bool.and_true]
 | .n1 n a,i,r,h=>by
   have h0:l.getD i default=n:=by
    have:l[i]? =some n:=by rw [←List.head?_drop,h];rfl
    rw [List.getD_eq_getElem?_getD,this];rfl
   have ha:l.drop (i+1)=a.row++r:=by rw [←List.drop_drop,h];rfl
   have hp:∀k∈List.range' (i+1) a.size,qei ((T.n1 n a).path i k)=(decide (goK n.1≤0)||qei (a.path (i+1) k)):=fun k hk=>by rw [List.mem_range'_1] at hk;rw [T.zqt,if_neg (by omega)];rfl
   have e0:qei ((T.n1 n a).path i i)=false:=by rw [T.zqt,if_pos rfl];rfl
   show (if zcw n.1 then [i] else if 0<goK n.1 then a.wts (i+1) else [])=(List.range' i (a.size+1)).filter _;rw [show List.range' i (a.size+1)=i::List.range' (i+1) a.size from rfl,List.filter_cons,h0,e0,Bool.not_false,Bool.and_true];have ih:=znd l a (i+1) r ha;by_cases hg:0<goK n.1
   ·have hw:zcw n.1=false:=by cases hw:zcw n.1;rfl;rw [yny hw] at hg;omega
    rw [hw,if_pos hg,ih];simp only [Bool.false_eq_true,if_false];refine List.filter_congr fun k hk=> ?_
    rw [hp k hk,decide_eq_false (by omega),Bool.false_or]
   ·rw [if_neg hg,zzo (l:=List.range' (i+1) a.size) fun k hk=>by rw [hp k hk,decide_eq_true (by omega)];simp]
 | .n2 n a b,i,r,h=>by
   have h0:l.getD i default=n:=by
    have:l[i]? =some n:=by rw [←List.head?_drop,h];rfl
    rw [List.getD_eq_getElem?_getD,this];rfl
   have ha:l.drop (i+1)=a.row++(b.row++r):=by rw [←List.drop_drop,h];simp [T.row]
   have hb:l.drop (i+1+a.size)=b.row++r:=by rw [←List.drop_drop,ha,←T.zab a,List.drop_left]
   have hpa:∀k∈List.range' (i+1) a.size,qei ((T.n2 n a b).path i k)=(decide (goK n.1≤0)||qei (a.path (i+1) k)):=fun k hk=>by rw [List.mem_range'_1] at hk;rw [T.zif,if_neg (by omega),if_pos (by omega)];rfl
   have hpb:∀k∈List.range' (i+1+a.size) b.size,qei ((T.n2 n a b).path i k)=(decide (goK n.1≤1)||qei (b.path (i+1+a.size) k)):=fun k hk=>by rw [List.mem_range'_1] at hk;rw [T.zif,if_neg (by omega),if_neg (by omega)];rfl
   have e0:qei ((T.n2 n a b).path i i)=false:=by rw [T.zif,if_pos rfl];rfl
   show (if zcw n.1 then [i] else (if 0<goK n.1 then a.wts (i+1) else [])++(if 1<goK n.1 then b.wts (i+1+a.size) else []))=(List.range' i (a.size+b.size+1)).filter _;rw [ygf,List.filter_cons,List.filter_append,h0,e0,Bool.not_false,Bool.and_true];have iha:=znd l a (i+1) _ ha;have ihb:=znd l b (i+1+a.size) r hb;by_cases hg:0<goK n.1
   ·have hw:zcw n.1=false:=by cases hw:zcw n.1;rfl;rw [yny hw] at hg;omega
    rw [hw,if_pos hg,iha];simp only [Bool.false_eq_true,if_false]
    congr 1
    ·refine List.filter_congr fun k hk=> ?_
     rw [hpa k hk,decide_eq_false (by omega),Bool.false_or]
    ·by_cases hg2:1<goK n.1
     ·rw [if_pos hg2,ihb];refine List.filter_congr fun k hk=> ?_
      rw [hpb k hk,decide_eq_false (by omega),Bool.false_or]
     ·rw [if_neg hg2,zzo (l:=List.range' (i+1+a.size) b.size) fun k hk=>by rw [hpb k hk,decide_eq_true (by omega)];simp]
   ·have hg2:¬1<goK n.1:=by omega
    rw [if_neg hg,if_neg hg2,zzo (l:=List.range' (i+1) a.size) fun k hk=>by rw [hpa k hk,decide_eq_true (by omega)];simp,
     zzo (l:=List.range' (i+1+a.size) b.size) fun k hk=>by rw [hpb k hk,decide_eq_true (by omega)];simp]
    rfl
def yim (l:List Nd) (at_:Nat) (x:Nat×Nat×T):Prop:=x.2.2.ok∧(∃r,l.drop x.1=x.2.2.row++r)∧x.1<at_∧match x.2.2 with
 | .n0 _=>False
 | .n1 _ a=>x.2.1=0∧at_<x.1+1+a.size
 | .n2 _ a b=>(x.2.1=0∧at_<x.1+1+a.size)∨(x.2.1=1∧x.1+1+a.size≤at_∧at_<x.1+1+a.size+b.size)
theorem qsg (l:List Nd) (k:Nat):∀(t:T) (i:Nat) (r:List Nd),t.ok→l.drop i=t.row++r→i≤k→k<i+t.size→∀x∈t.path i k,yim l k x
 | .n0 n,i,r,ht,h,h1,h2,x,hx=>by cases hx
 | .n1 n a,i,r,ht,h,h1,h2,x,hx=>by
   simp only [T.size] at h2;rw [T.zqt] at hx;split at hx
   ·cases hx
   ·rename_i hne;have ha:l.drop (i+1)=a.row++r:=by rw [←List.drop_drop,h];rfl
    rcases List.mem_cons.1 hx with rfl|hx
    ·exact ⟨ht,⟨r,h⟩,show i<k by omega,rfl,show k<i+1+a.size by omega⟩
    ·exact qsg l k a (i+1) r ht.2 ha (by omega) (by omega) x hx
 | .n2 n a b,i,r,ht,h,h1,h2,x,hx=>by
   simp only [T.size] at h2;have ha:l.drop (i+1)=a.row++(b.row++r):=by rw [←List.drop_drop,h];simp [T.row]
   have hb:l.drop (i+1+a.size)=b.row++r:=by rw [←List.drop_drop,ha,←T.zab a,List.drop_left]
   rw [T.zif] at hx;split at hx
   ·cases hx
   ·rename_i hne;split at hx
    ·rename_i hlt;rcases List.mem_cons.1 hx with rfl|hx
     ·exact ⟨ht,⟨r,h⟩,show i<k by omega,.inl ⟨rfl,hlt⟩⟩
     ·exact qsg l k a (i+1) _ ht.2.1 ha (by omega) (by omega) x hx
    ·rename_i hlt;rcases List.mem_cons.1 hx with rfl|hx
     ·exact ⟨ht,⟨r,h⟩,show i<k by omega,.inr ⟨rfl,show i+1+a.size≤k by omega,show k<i+1+a.size+b.size by omega⟩⟩
     ·exact qsg l k b (i+1+a.size) r ht.2.2 hb (by omega) (by omega) x hx
theorem qar:∀(t:T) (i:Nat),∀k∈t.wts i,i≤k∧k<i+t.size
 | .n0 n,i,k,h=>by
   unfold T.wts at h;split at h
   ·rw [List.mem_singleton] at h;subst h;exact ⟨Nat.le_refl _,by simp [T.size]⟩
   ·cases h
 | .n1 n a,i,k,h=>by
   unfold T.wts at h;simp only [T.size];split at h
   ·rw [List.mem_singleton] at h;omega
   ·split at h
    ·have:=qar a (i+1) k h;omega
    ·cases h
 | .n2 n a b,i,k,h=>by
   unfold T.wts at h;simp only [T.size];split at h
   ·rw [List.mem_singleton] at h;omega
   ·rcases List.mem_append.1 h with h|h
    ·split at h
     ·have:=qar a (i+1) k h;omega
     ·cases h
    ·split at h
     ·have:=qar b (i+1+a.size) k h;omega
     ·cases h
theorem qhm:∀(t:T) (i j:Nat),t.wts (i+j)=(t.wts i).map (· +j)
 | .n0 n,i,j=>by unfold T.wts;split<;>rfl
 | .n1 n a,i,j=>by
   unfold T.wts;split
   ·rfl
   ·split
    ·rw [show i+j+1=i+1+j by omega,qhm a]
    ·rfl
 | .n2 n a b,i,j=>by
   unfold T.wts;split
   ·rfl
   ·rw [List.map_append]
    congr 1
    ·split
     ·rw [show i+j+1=i+1+j by omega,qhm a]
     ·rfl
    ·split
     ·rw [show i+j+1+a.size=i+1+a.size+j by omega,qhm b]
     ·rfl
def zaz:List (Nat×Nat×T)→List (List Nd)×Bool
 |[]=>([],false)
 |x::r=>if (zaz r).2=true then ((zaz r).1,true) else if x.2.2.hd.1=7 then ((zaz r).1++[x.2.2.kid (1-x.2.1)],false) else ((zaz r).1,decide (x.2.2.hd.1=9))
def revB:List (Nat×Nat×T)→List (List Nd)→List (List Nd)×Bool
 |[],out=>(out,false)
 |x::r,out=>if x.2.2.hd.1=9 then (out,true) else if x.2.2.hd.1=7 then revB r (out++[x.2.2.kid (1-x.2.1)]) else revB r out
theorem qgi:∀(p q:List (Nat×Nat×T)) (out:List (List Nd)),revB (p++q) out=if (revB p out).2=true then revB p out else revB q (revB p out).1
 |[],q,out=>by simp [revB]
 |x::p,q,out=>by
  simp only [List.cons_append,revB];split
  ·simp
  ·split
   ·exact qgi p q _
   ·exact qgi p q _
theorem qmt:∀(p:List (Nat×Nat×T)),revB p.reverse []=zaz p
 |[]=>rfl
 |x::p=>by
  rw [List.reverse_cons,qgi,qmt p,zaz];split
  ·rename_i h;exact Prod.ext rfl h
  ·rename_i h;simp only [revB];by_cases h9:x.2.2.hd.1=9
   ·rw [if_pos h9,if_neg (by rw [h9];decide),decide_eq_true h9]
   ·by_cases h7:x.2.2.hd.1=7
    ·rw [if_neg h9,if_pos h7,if_pos h7]
    ·rw [if_neg h9,if_neg h7,if_neg h7,decide_eq_false h9]
theorem qrl (t:T):t.hd∈t.row:=by cases t<;>simp [T.hd,T.row]
theorem yby:∀(t:T) (i k:Nat),t.ok→∀x∈t.path i k,x.2.2.hd∈t.row∧(x.2.2.hd.1=7→∃c:T,c.ok∧c.size≤t.size∧x.2.2.kid (1-x.2.1)=c.row)
 | .n0 n,i,k,ht,x,hx=>by cases hx
 | .n1 n a,i,k,ht,x,hx=>by
   rw [T.zqt] at hx;split at hx
   ·cases hx
   ·rcases List.mem_cons.1 hx with rfl|hx
    ·refine ⟨qrl _,fun h7=> ?_⟩;have h7:n.1=7:=h7;have:=ht.1;rw [h7] at this;cases this
    ·obtain ⟨h1,h2⟩:=yby a (i+1) k ht.2 x hx;refine ⟨List.mem_cons_of_mem _ h1,fun h7=> ?_⟩;obtain ⟨c,c1,c2,c3⟩:=h2 h7;exact ⟨c,c1,by simp only [T.size];omega,c3⟩
 | .n2 n a b,i,k,ht,x,hx=>by
   rw [T.zif] at hx;split at hx
   ·cases hx
   ·split at hx
    ·rcases List.mem_cons.1 hx with rfl|hx
     ·exact ⟨qrl _,fun h7=>⟨b,ht.2.2,by simp only [T.size];omega,rfl⟩⟩
     ·obtain ⟨h1,h2⟩:=yby a (i+1) k ht.2.1 x hx;refine ⟨List.mem_cons_of_mem _ (List.mem_append_left _ h1),fun h7=> ?_⟩;obtain ⟨c,c1,c2,c3⟩:=h2 h7;exact ⟨c,c1,by simp only [T.size];omega,c3⟩
    ·rcases List.mem_cons.1 hx with rfl|hx
     ·exact ⟨qrl _,fun h7=>⟨a,ht.2.1,by simp only [T.size];omega,rfl⟩⟩
     ·obtain ⟨h1,h2⟩:=yby b (i+1+a.size) k ht.2.2 x hx;refine ⟨List.mem_cons_of_mem _ (List.mem_append_right _ h1),fun h7=> ?_⟩;obtain ⟨c,c1,c2,c3⟩:=h2 h7;exact ⟨c,c1,by simp only [T.size];omega,c3⟩
theorem quj:∀{p:List (Nat×Nat×T)} {y:List Nd},y∈(zaz p).1→∃x∈p,x.2.2.hd.1=7∧y=x.2.2.kid (1-x.2.1)
 |[],y,h=>by cases h
 |x::p,y,h=>by
  have up:(∃z∈p,z.2.2.hd.1=7∧y=z.2.2.kid (1-z.2.1))→∃z∈x::p,z.2.2.hd.1=7∧y=z.2.2.kid (1-z.2.1):=fun ⟨z,hz,h⟩=>⟨z,List.mem_cons_of_mem _ hz,h⟩
  rw [zaz] at h;split at h
  ·exact up (quj h)
  ·split at h
   ·rename_i h7;rcases List.mem_append.1 h with h|h
    ·exact up (quj h)
    ·exact ⟨x,List.mem_cons_self ..,h7,List.mem_singleton.1 h⟩
   ·exact up (quj h)
namespace Tm
def bang:Tm→Bool
 |over s=>decide (s=2)
 |fin s _=>decide (s=2)
 |seq a _=>a.bang
 |going a _=>a.bang
 |stack a _=>a.bang
 |par a b=>a.bang||b.bang
 |_=>false
theorem zpv:∀(m:Tm) (i:Nat),m.t.wts i≠[]↔m.waits=true
 |act s,i=>by simp [t,T.wts,waits,zcw]
 |skip,i=>by simp [t,T.wts,waits,zcw]
 |throw,i=>by simp [t,T.wts,waits,zcw]
 |yield,i=>by simp [t,T.wts,waits,zcw]
 |over s,i=>by simp [t,T.wts,waits,zcw]
 |seq a b,i=>by simp [t,T.wts,waits,zcw,goK,←zpv a (i+1)]
 |alt a b,i=>by simp [t,T.wts,waits,zcw]
 |par a b,i=>by have h1:=zpv a (i+1);have h2:=zpv b (i+1+a.t.size);simp [t,T.wts,waits,zcw,goK,←h1,←h2];by_cases h:a.t.wts (i+1)=[]<;>simp [h]
 |hand a b,i=>by simp [t,T.wts,waits,zcw,goK,←zpv a (i+1)]
 |block a,i=>by simp [t,T.wts,waits,zcw,goK,←zpv a (i+1)]
 |pair a b,i=>by simp [t,T.wts,waits,zcw]
 |going a b,i=>by simp [t,T.wts,waits,zcw,goK,←zpv a (i+1)]
 |stack a b,i=>by simp [t,T.wts,waits,zcw,goK,←zpv a (i+1)]
 |fin s a,i=>by simp [t,T.wts,waits,zcw,goK]
end Tm
end Go.Rd
namespace Go.Proofs.YtjolkdjkhekbnaaGreatDoor.Sv
open Go Go.Sv Go.Proofs Go.Rd Go.RowKit Go.Shelf
set_option maxRecDepth 100000
attribute [local go_sem] Oper.semAt_some
theorem go_wf [Dfr] {n:Int} (h: -9223372036854775808≤n∧n≤9223372036854775807):(Lit.int .i64 n).wf=true:=by simp [Lit.wf,IntKind.min,IntKind.max,IntKind.signed,IntKind.bits];omega
theorem yja [Dfr] (n:Nat) (s:Option Addr) (len cap:Nat) (w:World):CallsIn Fence.wide n Tryz.prog 168 #[.slice s len cap] w fun e w'=>
 e= .returned (.func (.func 223) #[] #[.pointer (some ⟨w.heap.size,0,none⟩)])∧w'=w.alloc (.cells #[.slice s len cap] 22):=by
 refine callsIn_of_wp Tryz.func168 rfl trivial ?_ rfl;simp only [Tryz.ntmps168,List.size_toArray,List.length_cons,List.length_nil,Nat.reduceAdd,Nat.reduceSub,Array.replicate_succ,Array.replicate_zero,List.push_toArray,List.append_toArray,List.nil_append,List.cons_append];gi_wp2;go_ret;exact ⟨rfl,rfl⟩
abbrev Spot:=Int×Int×Nat×Nat
def ysu (x:Spot):Array Value:= #[.int .i64 x.1,.agg #[.complex .f64 x.2.2.1 x.2.2.2,.int .i64 x.2.1]]
def qqj (x:Spot):Int×Int:=(x.1,x.2.1)
def dat (pre:List Spot):DataW Unit:=pre.foldl (fun D x=>D.put (.int .i64 x.1) (.lit (.int .i64 x.2.1))) (.map [])
theorem yoj [Dfr] (pre:List Spot) (x:Spot):dat (pre++[x])=(dat pre).put (.int .i64 x.1) (.lit (.int .i64 x.2.1)):=by simp [dat]
def ysOf (n:Nat) (p:Nat→Int):List (Int×Int):=(List.range n).map fun (i:Nat)=>((i:Int),p i)
theorem qhl [Dfr] (n:Nat) (p:Nat→Int):ysOf (n+1) p=ysOf n p++[((n:Int),p n)]:=by simp [ysOf,List.range_succ]
theorem yzg [Dfr] (n:Nat) (p:Nat→Int):(ysOf n p).length=n:=by simp [ysOf]
theorem yhh [Dfr] (xs:List Spot):Maps.IsMap (dat xs):=by
 have h:∀(l:List Spot) (D:DataW Unit),Maps.IsMap D→Maps.IsMap (l.foldl (fun D x=>D.put (.int .i64 x.1) (.lit (.int .i64 x.2.1))) D):=by
  intro l
  induction l with
  |nil=>exact fun D h=>h
  |cons x l ih=>exact fun D h=>ih _ (h.put _ _)
 exact h xs _ Maps.isMap_empty
theorem ywz [Dfr] (p:Nat→Int):∀(n:Nat) (xs:List Spot),xs.map qqj=ysOf n p→∀i,i<n→Maps.has (dat xs) (.int .i64 (i:Int))=true∧∀z,(dat xs).atKey (.int .i64 (i:Int)) z= .lit (.int .i64 (p i))
 |0,xs,h,i,hi=>absurd hi (by omega)
 |n+1,xs,h,i,hi=>by
  rw [qhl] at h;obtain ⟨l1,l2,rfl,h1,h2⟩:=List.map_eq_append_iff.1 h;obtain ⟨x,rfl,hx⟩:=List.map_eq_singleton_iff.1 h2;have e1:x.1=(n:Int):=congrArg Prod.fst hx;have e2:x.2.1=p n:=congrArg Prod.snd hx;rw [yoj,e1,e2];by_cases hin:i=n
  ·subst hin;have hk:WideAt.IsKeyLit (.int .i64 (i:Int)):=trivial;exact ⟨Maps.has_put_same (yhh l1) hk _,fun z=>Maps.atKey_put_same (yhh l1) hk _ _⟩
  ·have hne:Lit.int .i64 (i:Int)≠.int .i64 (n:Int):=fun e=>hin (by injection e with _ e;omega)
   rw [Maps.has_put_other hne];refine ⟨(ywz p n l1 h1 i (by omega)).1,fun z=> ?_⟩;rw [Maps.atKey_put_other hne];exact (ywz p n l1 h1 i (by omega)).2 z
def xfr (w:World) (ys:List (Int×Int)) (s:Option Addr) (len cap:Nat):Prop:=
 ∀(l bl:Nat) (M:Nat→Prop) (J:List Spot→World→Prop) (W:World),Kept (fun b=>w.heap.size≤b) w W→(∀b,M b→w.heap.size≤b∧b<W.heap.size)→w.heap.size≤l→l<W.heap.size→W.heap[bl]? =some (.cells #[.slice s len cap] 22 (0,0))→¬M bl→bl≠l→
  (∀pre A B,J pre A→Kept (fun k=>W.heap.size≤k) A B→J pre B)→
  (∀pre x W1,J pre W1→(pre++[x]).map qqj <+: ys→W.heap.size≤W1.heap.size→YieldAt Fence.wide 3 Tryz.prog l (ysu x) W1 fun e W'=>e= .returned (.bool true)∧J (pre++[x]) W'∧Kept (fun k=>M k∨k=l) W1 W')→
  J [] W→CallsIn Fence.wide 3 Tryz.prog 223 (#[.func (.yield l) #[] #[]]++ #[.pointer (some ⟨bl,0,none⟩)]) W fun e W'=>(∃v,e= .returned v)∧∃xs,xs.map qqj=ys∧J xs W'
theorem qnb [Dfr] {w w':World} {P:Program} {k:TypeId} {R:Value→Option (DataW Unit×List MemPlace)} {b n:Nat} {D:DataW Unit} {G:Nat→Prop} (h:w.ownsMap P k R b n D) (hk:Kept G w w') (hG:¬G b):w'.ownsMap P k R b n D:=by obtain ⟨es,ck,hh,hrest⟩:=h;exact ⟨es,ck,(hk.block _ (Array.getElem?_eq_some_iff.1 hh).1 hG).trans hh,hrest⟩
theorem yuz [Dfr] (n:Nat) (p:Nat→Int) (ov:Nat→List Nat) (hp:∀i,i<n→(p i= -1∧ov i=[])∨(0≤p i∧p i<i∧ov i=ov (p i).toNat++[(p i).toNat])) (hn:n≤1000000) (s:Option Addr) (len cap:Nat) (w:World) (hiter:xfr w (ysOf n p) s len cap) (k:Nat) (hk:k<n):
 CallsIn Fence.wide 4 Tryz.prog 103 #[.slice s len cap,.int .i64 (k:Int)] w fun e w'=>∃v m,e= .returned v∧w'.ownsRow w.heap.size 3 1 v m ((ov k).map fun (i:Nat)=>Value.int .i64 (i:Int))∧Kept (fun _=>False) w w':=by
 have hys:∀y∈ysOf n p,(Lit.int .i64 y.1).wf=true∧(Lit.int .i64 y.2).wf=true:=fun y hy=>by obtain ⟨i,hi,rfl⟩:=List.mem_map.1 hy;have hi:=List.mem_range.1 hi;refine ⟨go_wf ⟨?_,?_⟩,go_wf ⟨?_,?_⟩⟩<;>rcases hp i hi with ⟨h,_⟩|⟨h1,h2,_⟩<;>simp only<;>omega
 have hyl:(ysOf n p).length≤1000000:=by rw [yzg];exact hn
 have hmm:= @run_makeMap Tryz.prog;refine callsIn_of_wp_marks Tryz.func103 rfl trivial ?_ rfl;simp only [Tryz.ntmps103,List.size_toArray,List.length_cons,List.length_nil,Nat.reduceAdd,Nat.reduceSub,Array.replicate_succ,Array.replicate_zero,List.push_toArray,List.append_toArray,List.nil_append,List.cons_append];gi_wp2_with fail;refine ⟨trivial,(yja _ _ _ _ _).mono ?_⟩;rintro e w' ⟨rfl,rfl⟩;gi_wp2_with fail;have hm0:=World.ownsMap_made w Tryz.prog 3 (plainElem (H:=Unit) Tryz.prog 3);have bS:=(Boxed.new (w.alloc (.map #[] 0)) 173 (.map (some w.heap.size))).alloc (.cells #[.slice s len cap] 22);have bN:=Boxed.new ((w.alloc (.map #[] 0)).alloc (.cells #[.map (some w.heap.size)] 173)) 22 (.slice s len cap);simp only [World.size_alloc] at bS bN;obtain ⟨W0,hW0⟩:∃W0,(((w.alloc (.map #[] 0)).alloc (.cells #[.map (some w.heap.size)] 173)).alloc (.cells #[.slice s len cap] 22))=W0:=⟨_,rfl⟩
 have hs0:W0.heap.size=w.heap.size+3:=by rw [←hW0];simp
 have hm1:W0.ownsMap Tryz.prog 3 (plainElem (H:=Unit) Tryz.prog 3) w.heap.size 0 (.map []):=by rw [←hW0];exact (hm0.alloc _).alloc _
 rw [hW0] at bS bN ⊢;refine yuj (n:=3) (encs:=ysu) (Ok:=fun pre=>pre.map qqj <+: ysOf n p) (Fin:=fun xs=>xs.map qqj=ysOf n p) (M:=fun b=>b=w.heap.size) rfl (enters_of Tryz.func223 (by kernel_rfl) rfl) (fun _=>rfl) (fun b hb=>by omega)
  (fun pre W=>Boxed W (w.heap.size+1) 173 (.map (some w.heap.size))∧W.ownsMap Tryz.prog 3 (plainElem (H:=Unit) Tryz.prog 3) w.heap.size pre.length (dat pre)) ?hI ⟨bS,hm1⟩ ?iter ?round ?done
 case hI=>rintro pre W W' ⟨h1,h2⟩ hk;refine ⟨(hk.block _ h1.lt (by omega)).trans h1,?_⟩;obtain ⟨es,ck,hh,hrest⟩:=h2;exact ⟨es,ck,(hk.block _ (Array.getElem?_eq_some_iff.1 hh).1 (by omega)).trans hh,hrest⟩
 case iter=>
  intro l J W hk hl hlW hJ hy h0;have hkw:Kept (fun b=>w.heap.size≤b) w W0:=by rw [←hW0];exact (((Kept.refl _ w).alloc _).alloc _).alloc _
  have hsz:=hk.size;refine hiter l (w.heap.size+1+1) _ J W (hkw.trans hk fun x h=>h.elim) (fun b hb=>by subst hb;omega) (by omega) hlW ((hk.block _ (by omega) fun h=>h).trans bN) (by omega) (by omega) hJ hy h0
 case round=>
  rintro l pre ⟨x1,x2,x3,x4⟩ W hl hlW ⟨h1,h2⟩ hok;simp only [ysu];have hsc:=fun (a:Addr) (re im:Nat) (w:World)=>run_store Tryz.prog w a (.complex .f64 re im) .plain rfl
  have hcell:=h1.cell;gi_wp2_with fail;refine ⟨kept_alloc ..,fun W2 hk2=> ?_⟩;have hb2:W2.heap[W.heap.size]? =some (.cells #[.complex .f64 x3 x4,.int .i64 x2] 178 (0,0)):=(hk2.block _ (by simp) (by omega)).trans (World.alloc_heap_new W _);have hc2:W2.cell? ⟨W.heap.size,1,none⟩=some (.int .i64 x2):=by simp [World.cell?,hb2]
  have h1b:Boxed W2 (w.heap.size+1) 173 (.map (some w.heap.size)):=(hk2.block _ (by have:=(Boxed.lt h1);simp;omega) (by omega)).trans ((zbt W _ _ h1.lt).trans h1);have hcell2:=h1b.cell;have hown:W2.ownsMap Tryz.prog 3 (plainElem (H:=Unit) Tryz.prog 3) w.heap.size pre.length (dat pre):=by obtain ⟨es,ck,hh,hrest⟩:=h2;have hlt:=(Array.getElem?_eq_some_iff.1 hh).1;exact ⟨es,ck,(hk2.block _ (by simp;omega) (by omega)).trans ((zbt W _ _ hlt).trans hh),hrest⟩
  have hmem:qqj (x1,x2,x3,x4)∈ysOf n p:=hok.subset (by simp);obtain ⟨wf1,wf2⟩:=hys _ hmem;have hplen:pre.length≤1000000:=by have:=hok.length_le;simp at this;omega
  have hkey:=Maps.keyOf_int_mk Tryz.underlying3 wf1;clear hcell hsc;gi_wp2_with (gi_at_mapUpdate;refine qwi _ rfl _ _ _ 173 rfl 3 3 (Maps.int_keyed Tryz.underlying3) Tryz.underlying173 _ w.heap.size pre.length _ rfl hown (by unfold maxLen;omega) _ _ _ rfl rfl hkey _ [] (plainElem_int Tryz.underlying3 wf2) ?_;intro w1 hown1 hgrow1);refine And.intro ((hgrow1.block _ (Boxed.lt h1b) (by omega)).trans h1b) ?_;rw [yoj];exact hown1
 case done=>
  rintro D xs W hD hfin ⟨h1,h2⟩ hK hkept;have hcell:=h1.cell;have hat:=ywz p n xs hfin;have hwf:∀i,i<n→(Lit.int .i64 ((i:Nat):Int)).wf=true:=fun i hi=>go_wf ⟨by omega,by omega⟩
  have hkey:=Maps.keyOf_int_mk Tryz.underlying3 (hwf k hk);gi_wp2_with (first
   |(gi_at_lookup;refine wpListIn_lookup_own_ok_int W rfl _ _ 173 rfl 3 3 .i64 (Maps.int_keyed Tryz.underlying3) Tryz.underlying173 Tryz.underlying3 (Tryz.zeroValue3 _) w.heap.size xs.length (dat xs) rfl h2 (.int .i64 k) _ rfl hkey ?_;intro c hc hwc;rw [(hat k hk).1];rw [(hat k hk).2] at hc;cases hc)
   |(gi_at_lookup;refine wpListIn_lookup_own_int W rfl _ _ 173 rfl 3 3 .i64 (Maps.int_keyed Tryz.underlying3) Tryz.underlying173 Tryz.underlying3 (Tryz.zeroValue3 _) w.heap.size xs.length (dat xs) rfl h2 (.int .i64 k) _ rfl hkey ?_;intro c hc hwc;rw [(hat k hk).2] at hc;cases hc))
  obtain ⟨i0,hi0,hiz,his,hib⟩:=info_parts (P:=Tryz.prog) (e:=3) (z:=.int .i64 0) (size:=1) (bytes:=8) (by kernel_rfl);gi_loopw [1,8] (fun v1 v8 W'=>∃(c:Int) (acc:List Nat),v1= .int .i64 c∧-1≤c∧c<n∧(acc.length:Int)+(c+1)≤k∧(if c<0 then [] else ov c.toNat++[c.toNat])++acc=ov k∧
   W'.ownsRow w.heap.size 3 1 v8 acc.length (acc.map fun (i:Nat)=>Value.int .i64 (i:Int))∧Boxed W' (w.heap.size+1) 173 (.map (some w.heap.size))∧W'.ownsMap Tryz.prog 3 (plainElem (H:=Unit) Tryz.prog 3) w.heap.size xs.length (dat xs)∧
   W'.heap[D]? =some (.deferred (some []))∧Kept (fun b=>b=w.heap.size) W0 W') (fun v1 _ _=>(intOf v1+1).toNat)
  case atStart=>
   refine ⟨p k,[],rfl,?_,?_,?_,?_,⟨rfl,.inl ⟨rfl,rfl⟩⟩,h1,h2,hK,hkept⟩
   ·rcases hp k hk with ⟨h,_⟩|⟨h1,h2,_⟩<;>omega
   ·rcases hp k hk with ⟨h,_⟩|⟨h1,h2,_⟩<;>omega
   ·rcases hp k hk with ⟨h,_⟩|⟨h1,h2,_⟩<;>simp<;>omega
   ·rcases hp k hk with ⟨h,h0⟩|⟨h1,h2,h0⟩
    ·rw [h,h0];rfl
    ·rw [if_neg (by omega),h0];simp
  case round=>
   obtain ⟨c,acc,rfl,hc1,hc2,hc3,hacc,hrow,hb,hmap,hdef,hkp⟩:=hrel;have hcell3:=hb.cell;have hq1:w.heap.size≤wr.heap.size:=by have:=hkp.size;omega
   have hq2:0<(#[Value.int .i64 c]:Array Value).size:=by simp
   have hq3:0≤c→1+acc.length≤maxLen:=fun _=>by unfold maxLen;omega
   have hq4:0≤c→(1+acc.length)*8≤140737488355328:=fun _=>by omega
   have hq5:w.heap.size≤(wr.alloc (.cells #[.int .i64 c] 3)).heap.size:=by rw [World.size_alloc];omega
   have hq6:∀u∈acc.map (fun (i:Nat)=>Value.int .i64 (i:Int)),u.oneCell'=true:=fun u hu=>by obtain ⟨i,_,rfl⟩:=List.mem_map.1 hu;rfl
   gi_wp2_with (first
    |(gi_at_builtin;go_loud (have hcn:0≤c:=(by assumption);refine yme _ rfl _ _ 23 rfl w.heap.size 3 i0 _ 1 8 Tryz.underlying23 hi0 hiz his hib rfl Nat.one_pos _ 1 [.int .i64 c] rfl (ownsRow_lit (cs:= #[.int .i64 c]) hq1 hq2) Nat.one_pos u8 acc.length _ rfl (hrow.alloc _) hq6 (hq3 hcn) (hq4 hcn) hq5 ?_;intro v' w1 hrow1 hk1;have hb1:Boxed w1 (w.heap.size+1) 173 (.map (some w.heap.size)):=(hk1.block _ (by have:=Boxed.lt hb;rw [World.size_alloc];omega) (fun h=>by have:=Boxed.lt hb;have:wr.heap.size=_:=Option.some.inj h;omega)).trans ((zbt wr _ _ (Boxed.lt hb)).trans hb);have hcell1:=hb1.cell;have hmap1:w1.ownsMap Tryz.prog 3 (plainElem (H:=Unit) Tryz.prog 3) w.heap.size xs.length (dat xs):=qnb (qnb hmap (kept_alloc wr _) fun h=>h) hk1 (fun h=>by have:=Boxed.lt hb;have:wr.heap.size=_:=Option.some.inj h;omega);have hdef1:w1.heap[D]? =some (.deferred (some [])):=(hk1.block _ (by have:=(Array.getElem?_eq_some_iff.1 hdef).1;rw [World.size_alloc];omega) (fun h=>by have:=(Array.getElem?_eq_some_iff.1 hdef).1;have:wr.heap.size=_:=Option.some.inj h;omega)).trans ((zbt wr _ _ (Array.getElem?_eq_some_iff.1 hdef).1).trans hdef);have hkp1:Kept (fun b=>b=w.heap.size) W0 w1:=(hkp.trans (kept_alloc wr _) fun x h=>h.elim).trans hk1 fun x h=>.inr (by have:=hkp.size;have:wr.heap.size=_:=Option.some.inj h;omega)))
    |(gi_at_lookup
      have hcn:0≤c:=by assumption
      obtain ⟨i,rfl⟩:=Int.eq_ofNat_of_zero_le hcn;have hin:i<n:=by omega
      refine wpListIn_lookup_own_int w1 rfl _ _ 173 rfl 3 3 .i64 (Maps.int_keyed Tryz.underlying3) Tryz.underlying173 Tryz.underlying3 (Tryz.zeroValue3 _) w.heap.size xs.length (dat xs) rfl hmap1 (.int .i64 i) _ rfl (Maps.keyOf_int_mk Tryz.underlying3 (hwf i hin)) ?_;intro c' hc' hwc';rw [(hat i hin).2] at hc';cases hc'))
   ·have e0:ov (i:Int).toNat=ov i:=by rw [Int.toNat_natCast]
    rw [if_neg (by omega),e0,Int.toNat_natCast] at hacc;refine ⟨⟨p i,i::acc,rfl,?_,?_,?_,?_,?_,hb1,hmap1,hdef1,hkp1⟩,?_⟩
    ·rcases hp i hin with ⟨h,_⟩|⟨h1,h2,_⟩<;>omega
    ·rcases hp i hin with ⟨h,_⟩|⟨h1,h2,_⟩<;>omega
    ·rw [List.length_cons];rcases hp i hin with ⟨h,_⟩|⟨h1,h2,_⟩<;>omega
    ·rcases hp i hin with ⟨h,h0⟩|⟨h1,h2,h0⟩
     ·rw [h,←hacc,h0];rfl
     ·rw [if_neg (by omega),←hacc,h0];simp
    ·rw [List.length_cons,Nat.add_comm];exact hrow1
    ·show (p i+1).toNat<((i:Int)+1).toNat;rcases hp i hin with ⟨h,_⟩|⟨h1,h2,_⟩<;>omega
   ·have hlt:c<0:=by assumption
    rw [if_pos hlt,List.nil_append] at hacc;refine ⟨by simp,.inl ⟨_,_,rfl,run_takeDeferred hdef,?_⟩⟩;have hkw:Kept (fun _=>False) w W0:=by rw [←hW0];exact (((Kept.refl _ w).alloc _).alloc _).alloc _
    have hDw:w.heap.size≤D:=by omega
    have hkD:Kept (fun b=>b=D) wr (wr.putObj D (.deferred none)):=zna;refine ⟨u8,by first|kernel_rfl|simp [results,Tryz.f103,go_sem],u8,acc.length,rfl,?_,?_⟩
    ·rw [←hacc];refine zis hrow hkD fun g hg hgD=> ?_
     subst hgD;obtain ⟨_,h2⟩:=hrow;rcases h2 with ⟨h0,_⟩|⟨g',cap',cur,hv,_,hh,_⟩
     ·rw [h0] at hg;cases hg
     ·rw [hv] at hg;have:g'=g:=Option.some.inj hg;rw [this,hdef] at hh;cases hh
    ·exact (hkw.trans hkp fun x h=>.inr (by omega)).trans hkD fun x h=>.inr (by omega)
end Go.Proofs.YtjolkdjkhekbnaaGreatDoor.Sv
