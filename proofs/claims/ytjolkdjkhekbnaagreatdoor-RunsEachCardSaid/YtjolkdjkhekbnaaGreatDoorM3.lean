/- Sorts as numbers. Plain Lean, no program in sight. -/
import Derived.Test.YtjolkdjkhekbnaaGreatDoorM2
import Derived.Test.YtjolkdjkhekbnaaGreatDoorW03r
namespace Go.Rd
open Go Go.Sv
def on (s:Int):Int:=if s=1∨s=2 then s+2 else s
def both (a b:Int):Int:=if on a=on b then (if b>a then b else a) else 0
def behind (a b t:Int):Int:=if b=t then (if on a=on t then a else 0) else 0
def so2 (k x y:Int):Int :=
 if x=0 then 0 else if y=0 then 0
 else if k=6 then (if x>2 then 0 else if y>2 then 0 else both x y)
 else if k=7 then both x y
 else if k=5 then (if behind x y 2>behind x y 1 then behind x y 2 else behind x y 1)
 else if k=8 then behind x y 1
 else if k=10 then (if x=1 then (if y=1 then 2 else 0) else 0)
 else if k=12 then (if on x=3 then (if y=1 then 4 else 0) else 0)
 else if k=13 then (if on x=4 then (if y=1 then 4 else 0) else 0)
 else 0
def so1 (k x:Int):Int :=
 if x=0 then 0
 else if k=9 then (if on x=4 then x-1 else 0)
 else if k=14 then (if x=1 then 4 else 0)
 else 0
namespace Tm
theorem yud (a b:Tm):(seq a b).so=so2 5 a.so b.so:=by
 rcases cls a with ⟨h,h1,h2,h3,h4⟩|⟨h,h1,h2,h3,h4⟩|⟨h,h1,h2,h3,h4⟩|⟨h,h1,h2,h3,h4⟩|⟨h,h1,h2,h3,h4⟩ <;>
 rcases cls b with ⟨k,k1,k2,k3,k4⟩|⟨k,k1,k2,k3,k4⟩|⟨k,k1,k2,k3,k4⟩|⟨k,k1,k2,k3,k4⟩|⟨k,k1,k2,k3,k4⟩ <;>
 (rw [h,k];simp only [so,pl,pa,po,qo,h1,h2,h3,h4,k1,k2,k3,k4];rfl)
theorem yug (a b:Tm):(alt a b).so=so2 6 a.so b.so:=by
 rcases cls a with ⟨h,h1,h2,h3,h4⟩|⟨h,h1,h2,h3,h4⟩|⟨h,h1,h2,h3,h4⟩|⟨h,h1,h2,h3,h4⟩|⟨h,h1,h2,h3,h4⟩ <;>
 rcases cls b with ⟨k,k1,k2,k3,k4⟩|⟨k,k1,k2,k3,k4⟩|⟨k,k1,k2,k3,k4⟩|⟨k,k1,k2,k3,k4⟩|⟨k,k1,k2,k3,k4⟩ <;>
 (rw [h,k];simp only [so,pl,pa,po,qo,h1,h2,h3,h4,k1,k2,k3,k4];rfl)
theorem yue (a b:Tm):(par a b).so=so2 7 a.so b.so:=by
 rcases cls a with ⟨h,h1,h2,h3,h4⟩|⟨h,h1,h2,h3,h4⟩|⟨h,h1,h2,h3,h4⟩|⟨h,h1,h2,h3,h4⟩|⟨h,h1,h2,h3,h4⟩ <;>
 rcases cls b with ⟨k,k1,k2,k3,k4⟩|⟨k,k1,k2,k3,k4⟩|⟨k,k1,k2,k3,k4⟩|⟨k,k1,k2,k3,k4⟩|⟨k,k1,k2,k3,k4⟩ <;>
 (rw [h,k];simp only [so,pl,pa,po,qo,h1,h2,h3,h4,k1,k2,k3,k4];rfl)
theorem yre (a b:Tm):(hand a b).so=so2 8 a.so b.so:=by
 rcases cls a with ⟨h,h1,h2,h3,h4⟩|⟨h,h1,h2,h3,h4⟩|⟨h,h1,h2,h3,h4⟩|⟨h,h1,h2,h3,h4⟩|⟨h,h1,h2,h3,h4⟩ <;>
 rcases cls b with ⟨k,k1,k2,k3,k4⟩|⟨k,k1,k2,k3,k4⟩|⟨k,k1,k2,k3,k4⟩|⟨k,k1,k2,k3,k4⟩|⟨k,k1,k2,k3,k4⟩ <;>
 (rw [h,k];simp only [so,pl,pa,po,qo,h1,h2,h3,h4,k1,k2,k3,k4];rfl)
theorem yrd (a b:Tm):(pair a b).so=so2 10 a.so b.so:=by
 rcases cls a with ⟨h,h1,h2,h3,h4⟩|⟨h,h1,h2,h3,h4⟩|⟨h,h1,h2,h3,h4⟩|⟨h,h1,h2,h3,h4⟩|⟨h,h1,h2,h3,h4⟩ <;>
 rcases cls b with ⟨k,k1,k2,k3,k4⟩|⟨k,k1,k2,k3,k4⟩|⟨k,k1,k2,k3,k4⟩|⟨k,k1,k2,k3,k4⟩|⟨k,k1,k2,k3,k4⟩ <;>
 (rw [h,k];simp only [so,pl,pa,po,qo,h1,h2,h3,h4,k1,k2,k3,k4];rfl)
theorem ykh (a b:Tm):(going a b).so=so2 12 a.so b.so:=by
 rcases cls a with ⟨h,h1,h2,h3,h4⟩|⟨h,h1,h2,h3,h4⟩|⟨h,h1,h2,h3,h4⟩|⟨h,h1,h2,h3,h4⟩|⟨h,h1,h2,h3,h4⟩ <;>
 rcases cls b with ⟨k,k1,k2,k3,k4⟩|⟨k,k1,k2,k3,k4⟩|⟨k,k1,k2,k3,k4⟩|⟨k,k1,k2,k3,k4⟩|⟨k,k1,k2,k3,k4⟩ <;>
 (rw [h,k];simp only [so,pl,pa,po,qo,h1,h2,h3,h4,k1,k2,k3,k4];rfl)
theorem yke (a b:Tm):(stack a b).so=so2 13 a.so b.so:=by
 rcases cls a with ⟨h,h1,h2,h3,h4⟩|⟨h,h1,h2,h3,h4⟩|⟨h,h1,h2,h3,h4⟩|⟨h,h1,h2,h3,h4⟩|⟨h,h1,h2,h3,h4⟩ <;>
 rcases cls b with ⟨k,k1,k2,k3,k4⟩|⟨k,k1,k2,k3,k4⟩|⟨k,k1,k2,k3,k4⟩|⟨k,k1,k2,k3,k4⟩|⟨k,k1,k2,k3,k4⟩ <;>
 (rw [h,k];simp only [so,pl,pa,po,qo,h1,h2,h3,h4,k1,k2,k3,k4];rfl)
theorem yki (a:Tm):(block a).so=so1 9 a.so:=by
 rcases cls a with ⟨h,h1,h2,h3,h4⟩|⟨h,h1,h2,h3,h4⟩|⟨h,h1,h2,h3,h4⟩|⟨h,h1,h2,h3,h4⟩|⟨h,h1,h2,h3,h4⟩ <;>
 (rw [h];simp only [so,pl,pa,po,qo,h1,h2,h3,h4];rfl)
theorem yuf (s:Int) (a:Tm):(fin s a).so=so1 14 a.so:=by
 rcases cls a with ⟨h,h1,h2,h3,h4⟩|⟨h,h1,h2,h3,h4⟩|⟨h,h1,h2,h3,h4⟩|⟨h,h1,h2,h3,h4⟩|⟨h,h1,h2,h3,h4⟩ <;>
 (rw [h];simp only [so,pl,pa,po,qo,h1,h2,h3,h4];rfl)
theorem ykf (a:Tm):0≤a.so∧a.so≤4:=by
 rcases cls a with h|h|h|h|h<;>omega
theorem ykg (a:Tm):a.po=decide (on a.so=3):=by
 rcases cls a with ⟨h,h1,h2,h3,h4⟩|⟨h,h1,h2,h3,h4⟩|⟨h,h1,h2,h3,h4⟩|⟨h,h1,h2,h3,h4⟩|⟨h,h1,h2,h3,h4⟩<;>(rw [h,h3];rfl)
theorem ywe (a:Tm):a.qo=decide (on a.so=4):=by
 rcases cls a with ⟨h,h1,h2,h3,h4⟩|⟨h,h1,h2,h3,h4⟩|⟨h,h1,h2,h3,h4⟩|⟨h,h1,h2,h3,h4⟩|⟨h,h1,h2,h3,h4⟩<;>(rw [h,h4];rfl)
end Tm
noncomputable def tmOf (l:List Nd):Option Tm:=if h:whole l=true then some (Classical.choose (zxr.1 h)) else none
theorem ziv {l:List Nd} {m:Tm}:tmOf l=some m↔l=m.row∧m.fine∧m.size≤200:=by
 unfold tmOf
 split
 ·rename_i h
  have hs:=Classical.choose_spec (zxr.1 h)
  constructor
  ·intro e;cases e;exact hs
  ·rintro ⟨e,_⟩
   congr 1
   exact Tm.qao (hs.1.symm.trans e)
 ·rename_i h
  constructor
  ·intro e;cases e
  ·intro e;exact absurd (zxr.2 ⟨m,e⟩) h
theorem ycl {l:List Nd}:tmOf l=none↔whole l=false:=by
 unfold tmOf
 split
 ·rename_i h;simp [h]
 ·rename_i h;simpa using h
theorem qyx (l:List Nd):whole l=(tmOf l).isSome:=by
 cases h:tmOf l with
 |none=>rw [ycl.1 h];rfl
 |some m=>rw [zxr.2 ⟨m,ziv.1 h⟩];rfl
noncomputable def sOf (l:List Nd):Int:=match tmOf l with|some m=>m.so|none=>0
theorem ydo {m:Tm} (h:m.fine) (hs:m.size≤200):sOf m.row=m.so:=by
 unfold sOf
 rw [ziv.2 ⟨rfl,h,hs⟩]
def hit (names:List ByteArray) (n:Nd):Bool:=decide (n.1=1)&&decide (n.2.1∈names)
def T.rw (ns:List ByteArray):T→T
 | .n0 n=>bif hit ns n then .n2 (nd 6) (.n0 n) (.n0 (nd 3)) else .n0 n
 | .n1 n a=>.n1 n (a.rw ns)
 | .n2 n a b=>.n2 n (a.rw ns) (b.rw ns)
namespace Tm
end Tm
end Go.Rd
namespace Go.Proofs.YtjolkdjkhekbnaaGreatDoor.Sv
open Go Go.Sv Go.Rd
theorem yap [Dfr] (m:Tm) {n:Nd} (h:m.t= .n0 n) (hs:m.size≤100000):zff m.row=some []:=by
 rw [zgx _ (by rw [Tm.zab];omega),qoi,h]
 rfl
theorem ymv [Dfr] (m:Tm) {n:Nd} {a:Tm} (h:m.t= .n1 n a.t) (hs:m.size≤100000):zff m.row=some [a.row]:=by
 rw [zgx _ (by rw [Tm.zab];omega),qoi,h]
 rfl
theorem qsj [Dfr] (m:Tm) {n:Nd} {a b:Tm} (h:m.t= .n2 n a.t b.t) (hs:m.size≤100000):zff m.row=some [a.row,b.row]:=by
 rw [zgx _ (by rw [Tm.zab];omega),qoi,h]
 rfl
theorem zpo [Dfr] (x:Int):zmr x=some (on x):=by
 rw [qzj]
 by_cases h1:x=1; · subst h1;rfl
 by_cases h2:x=2; · subst h2;rfl
 simp only [beq_false_of_ne h1,beq_false_of_ne h2,cond_false,on,h1,h2,or_self,if_false]
theorem qud [Dfr] (x y:Int):zxz x y=some (both x y):=by
 rw [qqj]
 simp only [zpo,Option.bind_some,both]
 by_cases h:on x=on y
 ·have:(on x != on y)=false:=by simp [h]
  rw [this,if_pos h];rfl
 ·have:(on x != on y)=true:=by simp [h]
  rw [this,if_neg h];rfl
theorem qmy [Dfr] (x y z:Int):zms x y z=some (behind x y z):=by
 rw [qja]
 simp only [zpo,Option.bind_some,behind]
 by_cases h:y=z
 ·have:(y != z)=false:=by simp [h]
  rw [this,if_pos h,cond_false]
  by_cases h':on x=on z
  ·have:(on x != on z)=false:=by simp [h']
   rw [this,if_pos h'];rfl
  ·have:(on x != on z)=true:=by simp [h']
   rw [this,if_neg h'];rfl
 ·have:(y != z)=true:=by simp [h]
  rw [this,if_neg h];rfl
theorem yda [Dfr] (l a b:List Nd) {x y:Int} (ha:zdv a=some x) (hb:zdv b=some y):zij l 0 [] [a,b] (([a,b]:List (List Nd)).length:Int) 0=some (if x=0 then (1,(l,0,[])) else if y=0 then (1,(l,0,[x])) else (0,(l,0,[x,y]))):=by
 rw [zer]
 simp only [show decide ((0:Int)<(([a,b]:List (List Nd)).length:Int))=true from rfl,show zaa 0 ([a,b]:List (List Nd)).length=true from rfl,cond_true,show ix [a,b] 0=a from rfl,ha,Option.bind_some]
 by_cases h:x=0
 ·simp [h]
 ·simp only [beq_false_of_ne h,cond_false,if_neg h,room (show (([]:List Int).length+1)*8≤140737488355328 by decide),cond_true,List.nil_append]
  rw [zer]
  simp only [show decide (w64 (0+1)<(([a,b]:List (List Nd)).length:Int))=true from rfl,show zaa (w64 (0+1)) ([a,b]:List (List Nd)).length=true from rfl,cond_true,show ix [a,b] (w64 (0+1))=b from rfl,hb,Option.bind_some]
  by_cases h':y=0
  ·simp [h']
  ·simp only [beq_false_of_ne h',cond_false,if_neg h',room (show (([x]:List Int).length+1)*8≤140737488355328 by simp),cond_true]
   rw [zer]
   rfl
theorem qqi [Dfr] (l a:List Nd) {x:Int} (ha:zdv a=some x):zij l 0 [] [a] (([a]:List (List Nd)).length:Int) 0=some (if x=0 then (1,(l,0,[])) else (0,(l,0,[x]))):=by
 rw [zer]
 simp only [show decide ((0:Int)<(([a]:List (List Nd)).length:Int))=true from rfl,show zaa 0 ([a]:List (List Nd)).length=true from rfl,cond_true,show ix [a] 0=a from rfl,ha,Option.bind_some]
 by_cases h:x=0
 ·simp [h]
 ·simp only [beq_false_of_ne h,cond_false,if_neg h,room (show (([]:List Int).length+1)*8≤140737488355328 by decide),cond_true,List.nil_append]
  rw [zer]
  rfl
theorem ydb [Dfr] (l:List Nd):zij l 0 [] [] (([]:List (List Nd)).length:Int) 0=some (0,(l,0,[])):=by
 rw [zer]
 rfl
theorem zqw [Dfr] {m a b:Tm} {k x y:Int} (hk:k=5∨k=6∨k=7∨k=8∨k=10∨k=12∨k=13) (h:m.t= .n2 (nd k) a.t b.t) (hs:m.size≤100000) (ha:zdv a.row=some x) (hb:zdv b.row=some y):zdv m.row=some (so2 k x y):=by
 rw [znx,qsj m h hs]
 simp only [Option.bind_some,yda m.row a.row b.row ha hb]
 by_cases h0:x=0
 ·simp [h0,so2,Nat.beq]
 by_cases h1:y=0
 ·simp [h0,h1,so2,Nat.beq]
 have hrow:m.row=nd k::(a.row++b.row):=by unfold Tm.row;rw [h];rfl
 have hid:zaa 0 m.row.length=true:=by rw [hrow];exact zeu (by simp)
 have hix:(ix m.row 0).1=k:=by rw [hrow];rfl
 simp only [if_neg h0,if_neg h1,Nat.beq_refl,cond_true,hid,hix,qud,qmy,zpo,show zaa 0 ([x,y]:List Int).length=true from rfl,show zaa 1 ([x,y]:List Int).length=true from rfl,show ix [x,y] 0=x from rfl,show ix [x,y] 1=y from rfl,Option.bind_some,int_eq]
 unfold so2
 rw [if_neg h0,if_neg h1]
 rcases hk with rfl|rfl|rfl|rfl|rfl|rfl|rfl
 ·rfl
 ·by_cases c1:x>2<;>by_cases c2:y>2<;>simp [c1,c2]
 ·rfl
 ·rfl
 ·by_cases c1:x=1<;>by_cases c2:y=1<;>simp [c1,c2]
 ·by_cases c1:on x=3<;>by_cases c2:y=1<;>simp [c1,c2]
 ·by_cases c1:on x=4<;>by_cases c2:y=1<;>simp [c1,c2]
theorem ycz [Dfr] {a:Tm} {x:Int} (hs:(Tm.block a).size≤100000) (hx:0≤x∧x≤4) (ha:zdv a.row=some x):zdv (Tm.block a).row=some (so1 9 x):=by
 rw [znx,ymv (.block a) rfl hs]
 simp only [Option.bind_some,qqi (Tm.block a).row a.row ha]
 by_cases h0:x=0
 ·simp [h0,so1,Nat.beq]
 have hid:zaa 0 (Tm.block a).row.length=true:=by rw [Tm.zta];exact zeu (by simp)
 have hix:(ix (Tm.block a).row 0).1=9:=rfl
 simp only [if_neg h0,Nat.beq_refl,cond_true,hid,hix,zpo,show zaa 0 ([x]:List Int).length=true from rfl,show ix [x] 0=x from rfl,Option.bind_some,int_eq]
 unfold so1
 rw [if_neg h0]
 rw [znt (by omega) (by omega)]
 by_cases c1:on x=4<;>simp [c1]
theorem qzi [Dfr] {a:Tm} {s x:Int} (hs:(Tm.fin s a).size≤100000) (ha:zdv a.row=some x):zdv (Tm.fin s a).row=some (so1 14 x):=by
 rw [znx,ymv (.fin s a) rfl hs]
 simp only [Option.bind_some,qqi (Tm.fin s a).row a.row ha]
 by_cases h0:x=0
 ·simp [h0,so1,Nat.beq]
 have hid:zaa 0 (Tm.fin s a).row.length=true:=by rw [Tm.qnq];exact zeu (by simp)
 have hix:(ix (Tm.fin s a).row 0).1=14:=rfl
 simp only [if_neg h0,Nat.beq_refl,cond_true,hid,hix,zpo,show zaa 0 ([x]:List Int).length=true from rfl,show ix [x] 0=x from rfl,Option.bind_some,int_eq]
 unfold so1
 rw [if_neg h0]
 by_cases c1:x=1<;>simp [c1]
theorem zsp [Dfr] {m:Tm} {n:Nd} (h:m.t= .n0 n) (hk:n.1=1∨n.1=2∨n.1=3∨n.1=4∨n.1=11):zdv m.row=some (if n.1=11 then 3 else 1):=by
 have hs:m.size≤100000:=by unfold Tm.size;rw [h];simp [T.size]
 have hrow:m.row=[n]:=by unfold Tm.row;rw [h];rfl
 rw [znx,yap m h hs]
 simp only [Option.bind_some,ydb,Nat.beq_refl,cond_true]
 rw [hrow]
 simp only [show zaa 0 ([n]:List Nd).length=true from rfl,show ix [n] 0=n from rfl,cond_true]
 rcases hk with e|e|e|e|e<;>rw [e]<;>rfl
theorem quc [Dfr] (m:Tm) (hs:m.size≤100000):zdv m.row=some m.so:=by
 induction m with
 |act s=>rw [zsp (m:=.act s) rfl (.inl rfl)];rfl
 |skip=>rw [zsp (m:=.skip) rfl (.inr (.inl rfl))];rfl
 |throw=>rw [zsp (m:=.throw) rfl (.inr (.inr (.inl rfl)))];rfl
 |yield=>rw [zsp (m:=.yield) rfl (.inr (.inr (.inr (.inl rfl))))];rfl
 |over s=>rw [zsp (m:=.over s) rfl (.inr (.inr (.inr (.inr rfl))))];rfl
 |block a ih=>rw [ycz hs a.ykf (ih (by rw [Tm.zam] at hs;omega)),Tm.yki]
 |fin s a ih=>rw [qzi hs (ih (by rw [Tm.zcl] at hs;omega)),Tm.yuf]
 |seq a b iha ihb=>rw [zqw (m:=.seq a b) (by simp) rfl hs (iha (by rw [Tm.zaw] at hs;omega)) (ihb (by rw [Tm.zaw] at hs;omega)),Tm.yud]
 |alt a b iha ihb=>rw [zqw (m:=.alt a b) (by simp) rfl hs (iha (by rw [Tm.zyd] at hs;omega)) (ihb (by rw [Tm.zyd] at hs;omega)),Tm.yug]
 |par a b iha ihb=>rw [zqw (m:=.par a b) (by simp) rfl hs (iha (by rw [Tm.zbq] at hs;omega)) (ihb (by rw [Tm.zbq] at hs;omega)),Tm.yue]
 |hand a b iha ihb=>rw [zqw (m:=.hand a b) (by simp) rfl hs (iha (by rw [Tm.zba] at hs;omega)) (ihb (by rw [Tm.zba] at hs;omega)),Tm.yre]
 |pair a b iha ihb=>rw [zqw (m:=.pair a b) (by simp) rfl hs (iha (by rw [Tm.qfp] at hs;omega)) (ihb (by rw [Tm.qfp] at hs;omega)),Tm.yrd]
 |going a b iha ihb=>rw [zqw (m:=.going a b) (by simp) rfl hs (iha (by rw [Tm.zce] at hs;omega)) (ihb (by rw [Tm.zce] at hs;omega)),Tm.ykh]
 |stack a b iha ihb=>rw [zqw (m:=.stack a b) (by simp) rfl hs (iha (by rw [Tm.zdh] at hs;omega)) (ihb (by rw [Tm.zdh] at hs;omega)),Tm.yke]
theorem ydc [Dfr] (l:List Nd) (hl:l.length≤4611686018427387904):qmz l=some (sOf l):=by
 rw [qzl,qul l hl,qyx]
 unfold sOf
 simp only [Option.bind_some]
 cases h:tmOf l with
 |none=>rfl
 |some m =>
  obtain ⟨rfl,h2,h3⟩:=ziv.1 h
  simp only [Option.isSome_some,Bool.not_true,cond_false,quc m (by omega),Option.bind_some]
theorem qqk [Dfr] (l:List Nd) (b:Bool) (hl:l.length≤4611686018427387904):qfg l b=some (decide (on (sOf l)=if b then 4 else 3)):=by
 rw [qzk]
 cases b<;>simp only [ydc l hl,zpo,Option.bind_some,cond_true,cond_false,int_eq,if_true,if_false]<;>rfl
end Go.Proofs.YtjolkdjkhekbnaaGreatDoor.Sv
