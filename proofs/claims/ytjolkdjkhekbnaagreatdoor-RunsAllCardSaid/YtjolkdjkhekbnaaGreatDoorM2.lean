/- Terms and what goes on, as trees with named kinds; their sorts. Plain Lean, no program in sight. -/
import Derived.Test.YtjolkdjkhekbnaaGreatDoorM1
set_option linter.unusedVariables false
set_option linter.unusedSimpArgs false
namespace Go.Rd
open Go Go.Sv
inductive Tm where
 |act (s:ByteArray)
 |skip
 |throw
 |yield
 |over (s:Int)
 |seq (a b:Tm)
 |alt (a b:Tm)
 |par (a b:Tm)
 |hand (a b:Tm)
 |block (a:Tm)
 |pair (a b:Tm)
 |going (a b:Tm)
 |stack (a b:Tm)
 |fin (s:Int) (a:Tm)
 deriving DecidableEq
abbrev nd (k:Int):Nd:=(k,ByteArray.empty,0)
namespace Tm
def t:Tm→T
 |act s=>.n0 (1,s,0)
 |skip=>.n0 (nd 2)
 |throw=>.n0 (nd 3)
 |yield=>.n0 (nd 4)
 |over s=>.n0 (11,ByteArray.empty,s)
 |seq a b=>.n2 (nd 5) a.t b.t
 |alt a b=>.n2 (nd 6) a.t b.t
 |par a b=>.n2 (nd 7) a.t b.t
 |hand a b=>.n2 (nd 8) a.t b.t
 |block a=>.n1 (nd 9) a.t
 |pair a b=>.n2 (nd 10) a.t b.t
 |going a b=>.n2 (nd 12) a.t b.t
 |stack a b=>.n2 (nd 13) a.t b.t
 |fin s a=>.n1 (14,ByteArray.empty,s) a.t
def row (m:Tm):List Nd:=m.t.row
def size (m:Tm):Nat:=m.t.size
theorem t_ok (m:Tm):m.t.ok:=by induction m<;>first|exact (rfl:ar _=_)|exact ⟨rfl,by assumption⟩|exact ⟨rfl,by assumption,by assumption⟩
theorem zyn:∀{a b:Tm},a.t=b.t→a=b
 | .act s,m,h=>by cases m<;>simp [t,nd] at h;rw [h]
 | .over s,m,h=>by cases m<;>simp [t,nd] at h;rw [h]
 | .skip,m,h=>by cases m<;>simp [t,nd] at h;rfl
 | .throw,m,h=>by cases m<;>simp [t,nd] at h;rfl
 | .yield,m,h=>by cases m<;>simp [t,nd] at h;rfl
 | .block a,m,h=>by cases m<;>simp [t,nd] at h;rw [zyn h]
 | .fin s a,m,h=>by cases m<;>simp [t,nd] at h;rw [h.1,zyn h.2]
 | .seq a b,m,h=>by cases m<;>simp [t,nd] at h;rw [zyn h.1,zyn h.2]
 | .alt a b,m,h=>by cases m<;>simp [t,nd] at h;rw [zyn h.1,zyn h.2]
 | .par a b,m,h=>by cases m<;>simp [t,nd] at h;rw [zyn h.1,zyn h.2]
 | .hand a b,m,h=>by cases m<;>simp [t,nd] at h;rw [zyn h.1,zyn h.2]
 | .pair a b,m,h=>by cases m<;>simp [t,nd] at h;rw [zyn h.1,zyn h.2]
 | .going a b,m,h=>by cases m<;>simp [t,nd] at h;rw [zyn h.1,zyn h.2]
 | .stack a b,m,h=>by cases m<;>simp [t,nd] at h;rw [zyn h.1,zyn h.2]
theorem qjm {a b:Tm} (h:a.row=b.row):a=b:=zyn (Go.Rd.qjm a.t_ok b.t_ok h)
theorem zac (m:Tm):m.row.length=m.size:=T.zac _
theorem zda (m:Tm):0<m.size:=T.zda _
theorem qvx (m:Tm):m.row≠[]:=T.qvx _
@[simp] theorem row_act (s:ByteArray):(act s).row=[(1,s,0)]:=rfl
@[simp] theorem row_skip:skip.row=[nd 2]:=rfl
@[simp] theorem row_throw:throw.row=[nd 3]:=rfl
@[simp] theorem row_yield:yield.row=[nd 4]:=rfl
@[simp] theorem row_over (s:Int):(over s).row=[(11,ByteArray.empty,s)]:=rfl
theorem yhw (a b:Tm):(seq a b).row=nd 5::(a.row++b.row):=rfl
theorem xga (a b:Tm):(alt a b).row=nd 6::(a.row++b.row):=rfl
theorem qzd (a b:Tm):(par a b).row=nd 7::(a.row++b.row):=rfl
theorem qze (a b:Tm):(hand a b).row=nd 8::(a.row++b.row):=rfl
theorem zvb (a:Tm):(block a).row=nd 9::a.row:=rfl
theorem yzi (a b:Tm):(pair a b).row=nd 10::(a.row++b.row):=rfl
theorem qqc (a b:Tm):(going a b).row=nd 12::(a.row++b.row):=rfl
theorem qpy (a b:Tm):(stack a b).row=nd 13::(a.row++b.row):=rfl
theorem qqd (s:Int) (a:Tm):(fin s a).row=(14,ByteArray.empty,s)::a.row:=rfl
theorem yrt:skip.size=1:=rfl
theorem qgn (s:Int):(over s).size=1:=rfl
theorem zau (a b:Tm):(seq a b).size=a.size+b.size+1:=rfl
theorem zsf (a b:Tm):(alt a b).size=a.size+b.size+1:=rfl
theorem zbj (a b:Tm):(par a b).size=a.size+b.size+1:=rfl
theorem zay (a b:Tm):(hand a b).size=a.size+b.size+1:=rfl
theorem zan (a:Tm):(block a).size=a.size+1:=rfl
theorem zuy (a b:Tm):(pair a b).size=a.size+b.size+1:=rfl
theorem zbo (a b:Tm):(going a b).size=a.size+b.size+1:=rfl
theorem zca (a b:Tm):(stack a b).size=a.size+b.size+1:=rfl
theorem zbu (s:Int) (a:Tm):(fin s a).size=a.size+1:=rfl
def good (p:ByteArray→Prop) (q:Int→Prop):Tm→Prop
 |act s=>p s
 |skip|throw|yield=>True
 |over s=>q s
 |seq a b|alt a b|par a b|hand a b|pair a b|going a b|stack a b=>a.good p q∧b.good p q
 |block a=>a.good p q
 |fin s a=>q s∧a.good p q
end Tm
def lowB (b:UInt8):Bool:=decide (97≤b.toNat)&&decide (b.toNat≤122)
def ylh:List ByteArray:=[⟨#[115,107,105,112]⟩,⟨#[116,104,114,111,119]⟩,⟨#[121,105,101,108,100]⟩,⟨#[115,107,105,112,112]⟩,⟨#[116,104,114,111,119,119]⟩,⟨#[121,105,101,108,100,100]⟩]
def qmx (s:ByteArray):Bool:=decide (1≤s.size)&&(decide (s.size≤8)&&(s.data.toList.all lowB&& !decide (s∈ylh)))
def right (n:Nd):Bool:=
 if n.1=1 then qmx n.2.1&&decide (n.2.2=0)
 else if n.1=11∨n.1=14 then decide (n.2.1=ByteArray.empty)&&zkw n.2.2
 else (ar n.1).isSome&&(decide (n.2.1=ByteArray.empty)&&decide (n.2.2=0))
def one (l:List Nd):Bool:=match P l with|some (_,[])=>true|_=>false
theorem xgu {t:T} (h:t.ok):one t.row=true:=by unfold one;rw [qds h]
def whole (l:List Nd):Bool:=l.all right&&(decide (l.length≤200)&&one l)
abbrev Tm.fine (m:Tm):Prop:=m.good (fun s=>qmx s=true) (fun s=>zkw s=true)
theorem ar0 {k:Int} (h:ar k=some 0):k=1∨k=2∨k=3∨k=4∨k=11:=by
 unfold ar at h;by_cases h1:k=1∨k=2∨k=3∨k=4∨k=11
 ·exact h1
 ·rw [if_neg h1] at h;split at h
  ·cases h
  ·split at h<;>cases h
theorem ar1 {k:Int} (h:ar k=some 1):k=9∨k=14:=by
 unfold ar at h;split at h
 ·cases h
 ·by_cases h1:k=9∨k=14
  ·exact h1
  ·rw [if_neg h1] at h;split at h<;>cases h
theorem ar2 {k:Int} (h:ar k=some 2):k=5∨k=6∨k=7∨k=8∨k=10∨k=12∨k=13:=by
 unfold ar at h;split at h
 ·cases h
 ·split at h
  ·cases h
  ·split at h
   ·assumption
   ·cases h
theorem qya:∀{t:T},t.ok→(∀n∈t.row,right n=true)→∃m:Tm,m.t=t∧m.fine
 | .n0 n,h,hr=>by
   have hn:=hr n (by simp [T.row]);obtain ⟨k,s,z⟩:=n;rcases ar0 h with rfl|rfl|rfl|rfl|rfl
   ·simp only [right,if_true,Bool.and_eq_true,decide_eq_true_eq] at hn;obtain ⟨h1,rfl⟩:=hn;exact ⟨.act s,rfl,h1⟩
   ·simp [right,ar] at hn;obtain ⟨rfl,rfl⟩:=hn;exact ⟨.skip,rfl,trivial⟩
   ·simp [right,ar] at hn;obtain ⟨rfl,rfl⟩:=hn;exact ⟨.throw,rfl,trivial⟩
   ·simp [right,ar] at hn;obtain ⟨rfl,rfl⟩:=hn;exact ⟨.yield,rfl,trivial⟩
   ·simp [right,ar] at hn;obtain ⟨rfl,h1⟩:=hn;exact ⟨.over z,rfl,h1⟩
 | .n1 n a,h,hr=>by
   have hn:=hr n (by simp [T.row]);obtain ⟨m,rfl,hm⟩:=qya (t:=a) h.2 fun x hx=>hr x (by simp [T.row,hx])
   obtain ⟨k,s,z⟩:=n;rcases ar1 h.1 with rfl|rfl
   ·simp [right,ar] at hn;obtain ⟨rfl,rfl⟩:=hn;exact ⟨.block m,rfl,hm⟩
   ·simp [right,ar] at hn;obtain ⟨rfl,h1⟩:=hn;exact ⟨.fin z m,rfl,h1,hm⟩
 | .n2 n a b,h,hr=>by
   have hn:=hr n (by simp [T.row]);obtain ⟨m,rfl,hm⟩:=qya (t:=a) h.2.1 fun x hx=>hr x (by simp [T.row,hx])
   obtain ⟨m',rfl,hm'⟩:=qya (t:=b) h.2.2 fun x hx=>hr x (by simp [T.row,hx])
   obtain ⟨k,s,z⟩:=n;rcases ar2 h.1 with rfl|rfl|rfl|rfl|rfl|rfl|rfl<;>(simp [right,ar] at hn;obtain ⟨rfl,rfl⟩:=hn)
   ·exact ⟨.seq m m',rfl,hm,hm'⟩
   ·exact ⟨.alt m m',rfl,hm,hm'⟩
   ·exact ⟨.par m m',rfl,hm,hm'⟩
   ·exact ⟨.hand m m',rfl,hm,hm'⟩
   ·exact ⟨.pair m m',rfl,hm,hm'⟩
   ·exact ⟨.going m m',rfl,hm,hm'⟩
   ·exact ⟨.stack m m',rfl,hm,hm'⟩
theorem zjm:∀{m:Tm},m.fine→∀n∈m.row,right n=true:=by
 intro m
 induction m with
 |act s=>intro h n hn;rw [Tm.row_act,List.mem_singleton] at hn;subst hn;simp [right];exact h
 |skip=>intro h n hn;rw [Tm.row_skip,List.mem_singleton] at hn;subst hn;simp [right,ar]
 |throw=>intro h n hn;rw [Tm.row_throw,List.mem_singleton] at hn;subst hn;simp [right,ar]
 |yield=>intro h n hn;rw [Tm.row_yield,List.mem_singleton] at hn;subst hn;simp [right,ar]
 |over s=>intro h n hn;rw [Tm.row_over,List.mem_singleton] at hn;subst hn;simp [right,ar];exact h
 |block a ih=>
  intro h n hn;rw [Tm.zvb] at hn;rcases List.mem_cons.1 hn with rfl|hn
  ·simp [right,ar]
  ·exact ih h n hn
 |fin s a ih=>
  intro h n hn;rw [Tm.qqd] at hn;rcases List.mem_cons.1 hn with rfl|hn
  ·simp [right,ar];exact h.1
  ·exact ih h.2 n hn
 |seq a b iha ihb|alt a b iha ihb|par a b iha ihb|hand a b iha ihb|pair a b iha ihb|going a b iha ihb|stack a b iha ihb=>
  intro h n hn;rcases List.mem_cons.1 hn with rfl|hn
  ·simp [right,ar]
  ·rcases List.mem_append.1 hn with hn|hn
   ·exact iha h.1 n hn
   ·exact ihb h.2 n hn
theorem qgb {l:List Nd}:whole l=true↔∃m:Tm,l=m.row∧m.fine∧m.size≤200:=by
 constructor
 ·intro h;simp only [whole,Bool.and_eq_true,decide_eq_true_eq,List.all_eq_true] at h;obtain ⟨h1,h2,h3⟩:=h;unfold one at h3;split at h3
  ·rename_i t hp;obtain ⟨k1,k2⟩:=zyl hp;rw [List.append_nil] at k2;subst k2;obtain ⟨m,rfl,hm⟩:=qya k1 h1;exact ⟨m,rfl,hm,by rw [T.zac] at h2;exact h2⟩
  ·cases h3
 ·rintro ⟨m,rfl,hm,hs⟩;have hP:one m.row=true:=xgu m.t_ok;simp only [whole,Bool.and_eq_true,decide_eq_true_eq,List.all_eq_true,hP];exact ⟨fun n hn=>zjm hm n hn,by rw [Tm.zac];exact hs,trivial⟩
namespace Tm
mutual
def pl:Tm→Bool
 |act _|skip|throw|yield=>true
 |seq a b|alt a b|par a b|hand a b=>a.pl&&b.pl
 |block a=>a.pa
 |_=>false
def pa:Tm→Bool
 |pair a b=>a.pl&&b.pl
 |seq a b|alt a b|par a b=>a.pa&&b.pa
 |_=>false
end
mutual
def po:Tm→Bool
 |act _|skip|throw|yield|over _=>true
 |seq a b|hand a b=>a.po&&b.pl
 |alt a b=>a.pl&&b.pl
 |par a b=>a.po&&b.po
 |block a=>a.qo
 |_=>false
def qo:Tm→Bool
 |pair a b=>a.pl&&b.pl
 |alt a b=>a.pa&&b.pa
 |going a b=>a.po&&b.pl
 |seq a b=>a.qo&&b.pa
 |par a b=>a.qo&&b.qo
 |stack a b=>a.qo&&b.pl
 |fin _ a=>a.pl
 |_=>false
end
theorem qqz:∀m:Tm,(m.pl=true→m.po=true)∧(m.pa=true→m.qo=true):=by
 intro m
 induction m with
 |act s|skip|throw|yield|over s=>simp [pl,pa,po,qo]
 |block a ih=>simp only [pl,pa,po,qo];exact ⟨ih.2,by simp⟩
 |fin s a ih=>simp [pl,pa,po,qo]
 |pair a b iha ihb|going a b iha ihb|stack a b iha ihb=>simp [pl,pa,po,qo]
 |alt a b iha ihb=>simp [pl,pa,po,qo]
 |hand a b iha ihb=>simp only [pl,pa,po,qo,Bool.and_eq_true];exact ⟨fun h=>⟨iha.1 h.1,h.2⟩,by simp⟩
 |seq a b iha ihb=>simp only [pl,pa,po,qo,Bool.and_eq_true];exact ⟨fun h=>⟨iha.1 h.1,h.2⟩,fun h=>⟨iha.2 h.1,h.2⟩⟩
 |par a b iha ihb=>simp only [pl,pa,po,qo,Bool.and_eq_true];exact ⟨fun h=>⟨iha.1 h.1,ihb.1 h.2⟩,fun h=>⟨iha.2 h.1,ihb.2 h.2⟩⟩
theorem zbv {m:Tm} (h:m.pl=true):m.po=true:=(qqz m).1 h
theorem zhe {m:Tm} (h:m.pa=true):m.qo=true:=(qqz m).2 h
theorem xkp:∀m:Tm,m.po=true→m.qo=false:=by
 intro m
 induction m with
 |act s|skip|throw|yield|over s=>simp [po,qo]
 |block a ih=>simp [po,qo]
 |fin s a ih=>simp [po,qo]
 |pair a b iha ihb|going a b iha ihb|stack a b iha ihb=>simp [po,qo]
 |hand a b iha ihb=>simp [po,qo]
 |alt a b iha ihb=>
  simp only [po,qo,Bool.and_eq_true];intro h;have h1:=iha (zbv h.1);have:a.pa=false:=by
   cases h2:a.pa with
   |false=>rfl
   |true=>rw [zhe h2] at h1;cases h1
  simp [this]
 |seq a b iha ihb=>simp only [po,qo,Bool.and_eq_true];intro h;simp [iha h.1]
 |par a b iha ihb=>simp only [po,qo,Bool.and_eq_true];intro h;simp [iha h.1]
def so (m:Tm):Int:=if m.pl then 1 else if m.pa then 2 else if m.po then 3 else if m.qo then 4 else 0
theorem cls (m:Tm):(m.so=1∧m.pl=true∧m.pa=false∧m.po=true∧m.qo=false)∨(m.so=2∧m.pl=false∧m.pa=true∧m.po=false∧m.qo=true)∨
 (m.so=3∧m.pl=false∧m.pa=false∧m.po=true∧m.qo=false)∨(m.so=4∧m.pl=false∧m.pa=false∧m.po=false∧m.qo=true)∨(m.so=0∧m.pl=false∧m.pa=false∧m.po=false∧m.qo=false):=by
 have h1:= @zbv m;have h2:= @zhe m;have h3:=xkp m;unfold so;cases e1:m.pl<;>cases e2:m.pa<;>cases e3:m.po<;>cases e4:m.qo<;>simp_all
end Tm
def dg (i:Nat):List UInt8:=if i<10 then [UInt8.ofNat (48+i)] else [UInt8.ofNat (48+i/10),UInt8.ofNat (48+i % 10)]
def digB (b:UInt8):Bool:=decide (48≤b)&&decide (b≤57)
theorem qsm:∀i:Nat,i<100→(dg i).all digB=true:=by decide
theorem xew:∀i:Nat,i<20→∀j:Nat,j<20→dg i=dg j→i=j:=by decide
def keyN (n:Nd):List UInt8:=dg n.1.toNat++(n.2.1.data.toList++(58::(dg n.2.2.toNat++[32])))
def keyL (l:List Nd):List UInt8:=l.flatMap keyN
theorem qym {α:Type} {x:α}:∀{A A' B B':List α},x∉A→x∉A'→A++x::B=A'++x::B'→A=A'∧B=B'
 |[],[],B,B',_,_,h=>⟨rfl,by simpa using h⟩
 |[],a::A',B,B',_,h2,h=>by simp only [List.nil_append,List.cons_append,List.cons.injEq] at h;exact absurd (by rw [h.1];exact List.mem_cons_self ..) h2
 |a::A,[],B,B',h1,_,h=>by simp only [List.nil_append,List.cons_append,List.cons.injEq] at h;exact absurd (by rw [←h.1];exact List.mem_cons_self ..) h1
 |a::A,a'::A',B,B',h1,h2,h=>by simp only [List.cons_append,List.cons.injEq] at h;obtain ⟨k1,k2⟩:=qym (fun hm=>h1 (List.mem_cons_of_mem _ hm)) (fun hm=>h2 (List.mem_cons_of_mem _ hm)) h.2;exact ⟨by rw [h.1,k1],k2⟩
theorem yda:∀{A A' B B':List UInt8},A.all digB=true→A'.all digB=true→(∀b r,B=b::r→digB b=false)→(∀b r,B'=b::r→digB b=false)→A++B=A'++B'→A=A'∧B=B'
 |[],[],B,B',_,_,_,_,h=>⟨rfl,by simpa using h⟩
 |[],a::A',B,B',_,h2,hb,_,h=>by simp only [List.all_cons,Bool.and_eq_true] at h2;have:=hb a _ (by simpa using h);rw [h2.1] at this;cases this
 |a::A,[],B,B',h1,_,_,hb,h=>by simp only [List.all_cons,Bool.and_eq_true] at h1;have:=hb a _ (by simpa using h.symm);rw [h1.1] at this;cases this
 |a::A,a'::A',B,B',h1,h2,hb,hb',h=>by simp only [List.all_cons,Bool.and_eq_true] at h1 h2;simp only [List.cons_append,List.cons.injEq] at h;obtain ⟨k1,k2⟩:=yda h1.2 h2.2 hb hb' h.2;exact ⟨by rw [h.1,k1],k2⟩
theorem yum {b:UInt8} (h:lowB b=true):digB b=false∧b≠58∧b≠32:=by
 unfold lowB at h;have h1:97≤b.toNat:=by simp only [Bool.and_eq_true,decide_eq_true_eq] at h;exact h.1
 refine ⟨?_,?_,?_⟩
 ·unfold digB;rw [Bool.and_eq_false_iff];right;refine decide_eq_false fun h2=> ?_
  rw [UInt8.le_iff_toNat_le] at h2;have:(57:UInt8).toNat=57:=rfl;omega
 ·rintro rfl;have:(58:UInt8).toNat=58:=rfl;omega
 ·rintro rfl;have:(32:UInt8).toNat=32:=rfl;omega
theorem xhk {b:UInt8} (h:digB b=true):b≠58∧b≠32:=by
 constructor
 ·rintro rfl;revert h;decide
 ·rintro rfl;revert h;decide
theorem qek {n:Nd} (h:right n=true):0≤n.1∧n.1<20∧0≤n.2.2∧n.2.2<20∧n.2.1.data.toList.all lowB=true:=by
 unfold right at h;split at h
 ·rename_i e;simp only [Bool.and_eq_true,decide_eq_true_eq,qmx] at h;exact ⟨by omega,by omega,by omega,by omega,h.1.2.2.1⟩
 ·split at h
  ·rename_i e;simp only [Bool.and_eq_true,decide_eq_true_eq] at h;have:=zqy.1 h.2;exact ⟨by omega,by omega,by omega,by omega,by rw [h.1];rfl⟩
  ·rename_i e1 e2;simp only [Bool.and_eq_true,decide_eq_true_eq] at h;refine ⟨?_,?_,by omega,by omega,by rw [h.2.1];rfl⟩
   ·have h1:=h.1;unfold ar at h1;split at h1
    ·omega
    ·split at h1
     ·omega
     ·split at h1
      ·omega
      ·cases h1
   ·have h1:=h.1;unfold ar at h1;split at h1
    ·omega
    ·split at h1
     ·omega
     ·split at h1
      ·omega
      ·cases h1
theorem xbm {n n':Nd} {r r':List UInt8} (hn:right n=true) (hn':right n'=true) (h:keyN n++r=keyN n'++r'):n=n'∧r=r':=by
 obtain ⟨a1,a2,a3,a4,a5⟩:=qek hn;obtain ⟨b1,b2,b3,b4,b5⟩:=qek hn';unfold keyN at h;simp only [List.append_assoc,List.cons_append,List.nil_append] at h;have nb:∀{s:ByteArray} {R:List UInt8},s.data.toList.all lowB=true→∀b q,s.data.toList++(58::R)=b::q→digB b=false:=by
  intro s R hs b q e;cases hd:s.data.toList with
  |nil=>rw [hd] at e;simp only [List.nil_append,List.cons.injEq] at e;rw [←e.1];decide
  |cons c cs=>rw [hd] at e hs;simp only [List.cons_append,List.cons.injEq] at e;simp only [List.all_cons,Bool.and_eq_true] at hs;rw [←e.1];exact (yum hs.1).1
 obtain ⟨e1,h⟩:=yda (qsm _ (by omega)) (qsm _ (by omega)) (nb a5) (nb b5) h;have no58:∀{s:ByteArray},s.data.toList.all lowB=true→(58:UInt8)∉s.data.toList:=fun hs hm=>(yum (List.all_eq_true.1 hs _ hm)).2.1 rfl
 obtain ⟨e2,h⟩:=qym (no58 a5) (no58 b5) h;have no32:∀{i:Nat},i<100→(32:UInt8)∉dg i:=fun hi hm=>(xhk (List.all_eq_true.1 (qsm _ hi) _ hm)).2 rfl
 obtain ⟨e3,h⟩:=qym (no32 (by omega)) (no32 (by omega)) h;have k1:=xew _ (by omega) _ (by omega) e1;have k3:=xew _ (by omega) _ (by omega) e3;obtain ⟨x,s,z⟩:=n;obtain ⟨x',s',z'⟩:=n';obtain ⟨d⟩:=s;obtain ⟨d'⟩:=s';have k2:d=d':=Array.toList_inj.1 e2;simp only at a1 a3 b1 b3 k1 k3;have:x=x':=by omega
 have:z=z':=by omega
 subst k2;simp_all
theorem yuy (n:Nd):keyN n≠[]:=by unfold keyN;simp
theorem yml:∀{l l':List Nd},(∀n∈l,right n=true)→(∀n∈l',right n=true)→keyL l=keyL l'→l=l'
 |[],[],_,_,_=>rfl
 |[],n::l',_,_,h=>by simp only [keyL,List.flatMap_nil,List.flatMap_cons] at h;exact absurd (List.append_eq_nil_iff.1 h.symm).1 (yuy n)
 |n::l,[],_,_,h=>by simp only [keyL,List.flatMap_nil,List.flatMap_cons] at h;exact absurd (List.append_eq_nil_iff.1 h).1 (yuy n)
 |n::l,n'::l',h1,h2,h=>by simp only [keyL,List.flatMap_cons] at h;obtain ⟨e1,e2⟩:=xbm (h1 n (List.mem_cons_self ..)) (h2 n' (List.mem_cons_self ..)) h;rw [e1,yml (l:=l) (l':=l') (fun x hx=>h1 x (List.mem_cons_of_mem _ hx)) (fun x hx=>h2 x (List.mem_cons_of_mem _ hx)) e2]
end Go.Rd
namespace Go.Proofs.YtjolkdjkhekbnaaGreatDoor.Sv
open Go Go.Sv Go.Rd
theorem zcb [Dfr] (k:Int):zng k=some (arI k):=by
 rw [qup];by_cases h1:k=1; · subst h1;rfl
 by_cases h2:k=2; · subst h2;rfl
 by_cases h3:k=3; · subst h3;rfl
 by_cases h4:k=4; · subst h4;rfl
 by_cases h5:k=5; · subst h5;rfl
 by_cases h6:k=6; · subst h6;rfl
 by_cases h7:k=7; · subst h7;rfl
 by_cases h8:k=8; · subst h8;rfl
 by_cases h9:k=9; · subst h9;rfl
 by_cases h10:k=10; · subst h10;rfl
 by_cases h11:k=11; · subst h11;rfl
 by_cases h12:k=12; · subst h12;rfl
 by_cases h13:k=13; · subst h13;rfl
 by_cases h14:k=14; · subst h14;rfl
 have e:∀c:Int,¬k=c→(k==c)=false:=fun c h=>beq_false_of_ne h
 simp only [e _ h1,e _ h2,e _ h3,e _ h4,e _ h5,e _ h6,e _ h7,e _ h8,e _ h9,e _ h10,e _ h11,e _ h12,e _ h13,e _ h14,cond_false];simp [arI,ar, *]
def wk (l:List Nd) (at_:Nat):Int×Int:=match P (l.drop at_) with|some (t,r)=>(((at_+t.size:Nat):Int),(t.depth:Int))|none=>(-1,0)
theorem zom [Dfr] (l:List Nd) (hl:l.length≤4611686018427387904):∀(n i:Nat),l.length-i≤n→i≤l.length→zql l (i:Int)=some (wk l i):=by
 intro n
 induction n with
 |zero=>intro i hn hi;have h1:l.drop i=[]:=List.drop_eq_nil_of_le (by omega);have h2:decide ((i:Int)≥(l.length:Int))=true:=decide_eq_true (by omega);rw [zxi];simp only [h2,cond_true,wk,h1,xkf]
 |succ n ih=>
  intro i hn hi;cases hd:l.drop i with
  |nil=>have h2:decide ((i:Int)≥(l.length:Int))=true:=decide_eq_true (by have:=(drop_nil hd).1;omega);rw [zxi];simp only [h2,cond_true,wk,hd,xkf]
  |cons x r=>
   obtain ⟨h1,h2,h3,h4,h5,h6⟩:=zab hd;have h7:decide ((i:Int)≥(l.length:Int))=false:=decide_eq_false (by omega);have hs:w64 ((i:Int)+1)=((i+1:Nat):Int):=zar (by omega);have hk:=ih (i+1) (by omega) (by omega);have hP:=xfa x r;rw [←hd] at hP;rw [zxi];simp only [h7,cond_false,h3,cond_true,h4,zcb,Option.bind_some,hs];rw [zho];simp only [h3,cond_true,h4,zcb,Option.bind_some];unfold wk;rw [hP];cases ha:ar x.1 with
   |none=>simp only [arI,ha];rfl
   |some m=>
    have hm:=ywr ha;have e1:arI x.1=(m:Int):=by simp [arI,ha]
    have e2:decide ((m:Int)<0)=false:=decide_eq_false (by omega);simp only [e1,e2,cond_false];rcases m with _|_|_|m
    ·rfl
    ·simp only [show decide ((0:Int)<((0+1:Nat):Int))=true from rfl,cond_true,hk,Option.bind_some];unfold wk;rw [h5];cases hp:P r with
     |none=>rfl
     |some q=>
      obtain ⟨a,l1⟩:=q;have hda:=a.qsn;have g1:decide (((i+1+a.size:Nat):Int)<0)=false:=decide_eq_false (by omega);have g2:decide ((a.depth:Int)>0)=true:=decide_eq_true (by omega);simp only [g1,g2,cond_true,cond_false];rw [zho];have g3:decide (w64 (0+1)<((0+1:Nat):Int))=false:=rfl;have hds:=a.qcd;have hsz:=(zyl hp).2;have hln:=congrArg List.length hsz;rw [List.length_append,T.zac] at hln;simp only [h3,cond_true,h4,zcb,Option.bind_some,e1,g3,cond_false,T.size,T.depth];simp only [zar (show a.depth<9223372036854775807 by omega),Nat.beq_refl,cond_true]
      congr 3;omega
    ·simp only [show decide ((0:Int)<((0+1+1:Nat):Int))=true from rfl,cond_true,hk,Option.bind_some];unfold wk;rw [h5];cases hp:P r with
     |none=>rfl
     |some q=>
      obtain ⟨a,l1⟩:=q;have hda:=a.qsn;have g1:decide (((i+1+a.size:Nat):Int)<0)=false:=decide_eq_false (by omega);have g2:decide ((a.depth:Int)>0)=true:=decide_eq_true (by omega);have hsz:=(zyl hp).2;have hln:=congrArg List.length hsz;rw [List.length_append,T.zac] at hln;have hd2:l.drop (i+1+a.size)=l1:=by rw [←List.drop_drop,h5,hsz,List.drop_append_of_le_length (by simp [T.zac]),←T.zac,List.drop_length,List.nil_append]
      have hk2:=ih (i+1+a.size) (by omega) (by omega);have hds:=a.qcd;simp only [g1,g2,cond_true,cond_false];rw [zho];have g3:decide (w64 (0+1)<((0+1+1:Nat):Int))=true:=rfl;simp only [h3,cond_true,h4,zcb,Option.bind_some,e1,g3,hk2];unfold wk;rw [hd2];cases hp2:P l1 with
      |none=>rfl
      |some q2=>
       obtain ⟨b,l2⟩:=q2;have hdb:=b.qsn;have hdsb:=b.qcd;have hsz2:=(zyl hp2).2;have hln2:=congrArg List.length hsz2;rw [List.length_append,T.zac] at hln2;have g4:decide (((i+1+a.size+b.size:Nat):Int)<0)=false:=decide_eq_false (by omega);simp only [g4,cond_false];have g5:decide (w64 (w64 (0+1)+1)<((0+1+1:Nat):Int))=false:=rfl;by_cases hc:a.depth<b.depth
       ·have g6:decide ((b.depth:Int)>(a.depth:Int))=true:=decide_eq_true (by omega);simp only [g6,cond_true];rw [zho];simp only [h3,cond_true,h4,zcb,Option.bind_some,e1,g5,cond_false,T.size,T.depth,zar (show b.depth<9223372036854775807 by omega),Nat.beq_refl];rw [show max a.depth b.depth=b.depth by omega]
        congr 3;omega
       ·have g6:decide ((b.depth:Int)>(a.depth:Int))=false:=decide_eq_false (by omega);simp only [g6,cond_false];rw [zho];simp only [h3,cond_true,h4,zcb,Option.bind_some,e1,g5,cond_false,T.size,T.depth,zar (show a.depth<9223372036854775807 by omega),Nat.beq_refl];rw [show max a.depth b.depth=a.depth by omega]
        congr 3;omega
    ·omega
def sz (l:List Nd):Nat:=match P l with|some (t,_)=>t.size|none=>0
def dep (l:List Nd):Nat:=match P l with|some (t,_)=>t.depth|none=>0
theorem qae [Dfr] (l:List Nd) (hl:l.length≤4611686018427387904):zqm l=some (sz l:Int):=by
 rw [yah];have:=zom l hl l.length 0 (by omega) (by omega);rw [show ((0:Nat):Int)=0 from rfl] at this;simp only [this,Option.bind_some,wk,List.drop_zero,sz];cases P l with
 |none=>rfl
 |some q=>have g:decide (((q.1.size:Nat):Int)<0)=false:=decide_eq_false (by omega);simp only [Nat.zero_add,g,cond_false]
theorem yal [Dfr] (l:List Nd) (hl:l.length≤4611686018427387904):qeu l=some (dep l:Int):=by
 rw [qum];have:=zom l hl l.length 0 (by omega) (by omega);rw [show ((0:Nat):Int)=0 from rfl] at this;simp only [this,Option.bind_some,wk,List.drop_zero,dep];cases P l with
 |none=>rfl
 |some q=>rfl
theorem qls [Dfr] (xs ys:List Nd) (hx:xs.length≤4611686018427387904) (hl:xs.length=ys.length) (b:Bool):∀(r:List Nd) (i:Nat),xs.drop i=r→zpz xs ys b (i:Int)=some (if r=ys.drop i then (0,b) else (1,false))
 |[],i,h=>by rw [zyg];obtain ⟨h1,h2⟩:=drop_nil h;simp only [h2,cond_false,List.drop_eq_nil_of_le (show ys.length≤i by omega),if_true]
 |x::r,i,h=>by
  rw [zyg];obtain ⟨h1,h2,h3,h4,h5,h6⟩:=zab h;cases hy:ys.drop i with
  |nil=>have:=List.drop_eq_nil_iff.1 hy;omega
  |cons y s=>
   obtain ⟨k1,k2,k3,k4,k5,k6⟩:=zab hy;simp only [h2,h3,h4,k3,k4,cond_true,xjg,zar (show i<9223372036854775807 by omega),qls xs ys hx hl b r (i+1) h5,k5];by_cases e:x=y
   ·simp [e]
   ·simp [e]
theorem yej [Dfr] (xs ys:List Nd) (hx:xs.length≤4611686018427387904):qjq xs ys=some (decide (xs=ys)):=by
 rw [yai];by_cases hl:xs.length=ys.length
 ·have h1:((xs.length:Int) != (ys.length:Int))=false:=by simp [hl]
  have:=qls xs ys hx hl false xs 0 rfl;rw [show ((0:Nat):Int)=0 from rfl,List.drop_zero] at this;simp only [h1,cond_false,this,Option.bind_some];by_cases e:xs=ys<;>simp [e,Nat.beq]
 ·have h1:((xs.length:Int) != (ys.length:Int))=true:=by simp;omega
  have h2:xs≠ys:=fun e=>hl (by rw [e])
  simp [h1,h2]
theorem zxj [Dfr] (n:Nd) (a:List Nd) (h:a.length≤1000000000):zhp n a=some (n::a):=by rw [yek,room (show (1+a.length)*32≤140737488355328 by omega)];rfl
theorem qqv [Dfr] (n:Nd) (a b:List Nd) (ha:a.length≤1000000000) (hb:b.length≤1000000000):zbd n a b=some (n::(a++b)):=by rw [yei,zxj n a ha];simp only [Option.bind_some,List.length_cons];rw [room (show (a.length+1+b.length)*32≤140737488355328 by omega)];rfl
theorem ykq [Dfr] {s:ByteArray} {i:Nat} {x:UInt8} {r:List UInt8} (h:s.data.toList.drop i=x::r):qsv s (i:Int)=(x.toNat:Int):=by
 obtain ⟨h1,_,_,h4,_,_⟩:=zab h;unfold qsv;rw [Int.toNat_natCast];have:s.data.getD i 0=x:=by
  rw [Array.getD_eq_getD_getElem?,←Array.getElem?_toList,List.getElem?_eq_getElem h1];have:=qar (xs:=s.data.toList) (i:=i) h1;rw [h4] at this
  simpa using this.symm
 rw [this]
theorem qpn [Dfr] (s:ByteArray):s.data.toList.length=s.size:=Array.length_toList
theorem qaf [Dfr] (n:Nd) (b:Bool) (hs:n.2.1.size≤9223372036854775807):∀(r:List UInt8) (i:Nat),n.2.1.data.toList.drop i=r→znw n b (i:Int)=some (if r.all lowB then (0,(n,b)) else (1,(n,false)))
 |[],i,h=>by obtain ⟨h1,h2⟩:=drop_nil h;rw [qpn] at h1 h2;rw [zvm];simp only [h2,cond_false,List.all_nil,if_true]
 |x::r,i,h=>by
  have hb:=ykq h;obtain ⟨h1,h2,h3,h4,h5,h6⟩:=zab h;rw [qpn] at h1 h2 h3;rw [zvm];simp only [h2,h3,hb,cond_true,zar (show i<9223372036854775807 by omega),qaf n b hs r (i+1) h5,List.all_cons];by_cases c1:x.toNat<97
  ·rw [decide_eq_true (show (x.toNat:Int)<97 by omega)];simp [lowB,show ¬97≤x.toNat by omega]
  ·rw [decide_eq_false (show ¬(x.toNat:Int)<97 by omega)];by_cases c2:x.toNat>122
   ·rw [decide_eq_true (show (x.toNat:Int)>122 by omega)];simp [lowB,show ¬x.toNat≤122 by omega]
   ·rw [decide_eq_false (show ¬(x.toNat:Int)>122 by omega)];simp [lowB,show 97≤x.toNat by omega,show x.toNat≤122 by omega]
theorem yeh [Dfr] (s:ByteArray):qjp s=some (decide (s∈ylh)):=by
 rw [yaf];simp only [str_eq,ylh,List.mem_cons,List.not_mem_nil,or_false];by_cases h1:s=⟨#[115,107,105,112]⟩
 ·simp [h1]
 by_cases h2:s=⟨#[116,104,114,111,119]⟩
 ·simp [h2]
 by_cases h3:s=⟨#[121,105,101,108,100]⟩
 ·simp [h3]
 by_cases h4:s=⟨#[115,107,105,112,112]⟩
 ·simp [h4]
 by_cases h5:s=⟨#[116,104,114,111,119,119]⟩
 ·simp [h5]
 simp only [h1,h2,h3,h4,h5,decide_false,cond_false,false_or]
theorem qsi [Dfr]:(⟨#[]⟩:ByteArray)=ByteArray.empty:=rfl
theorem xhs [Dfr] (k:Int):decide (arI k<0)= !(ar k).isSome:=by
 unfold arI;cases h:ar k with
 |none=>rfl
 |some n=>simp
theorem yaj [Dfr] (n:Nd) (hs:n.2.1.size≤9223372036854775807):qet n=some (right n):=by
 rw [qul];simp only [zcb,Option.bind_some,xhs,str_eq,qsi];unfold right;by_cases h1:n.1=1
 ·have:=qaf n false hs n.2.1.data.toList 0 rfl;rw [Int.natCast_zero] at this;simp only [h1,this,Option.bind_some,ar];simp only [yeh,Option.bind_some,qmx];have e1:decide ((n.2.1.size:Int)≥1)=decide (1≤n.2.1.size):=by congr 1;exact propext ⟨fun h=>by omega,fun h=>by omega⟩
  have e2:decide ((n.2.1.size:Int)≤8)=decide (n.2.1.size≤8):=by congr 1;exact propext ⟨fun h=>by omega,fun h=>by omega⟩
  cases c1:n.2.1.data.toList.all lowB with
  |false=>simp [Nat.beq]
  |true=>simp only [if_true,Nat.beq_refl,cond_true,e1,e2,int_eq,Option.isSome_some,Bool.not_true,cond_false,decide_true];cases decide (1≤n.2.1.size)<;>cases decide (n.2.1.size≤8)<;>cases decide (n.2.2=0)<;>simp
 ·by_cases h2:n.1=11
  ·simp [h2,ar,zkw];by_cases c1:n.2.1=ByteArray.empty<;>by_cases c2:1≤n.2.2<;>simp [c1,c2]
  ·by_cases h3:n.1=14
   ·simp [h3,ar,zkw];by_cases c1:n.2.1=ByteArray.empty<;>by_cases c2:1≤n.2.2<;>simp [c1,c2]
   ·simp only [beq_false_of_ne h1,beq_false_of_ne h2,beq_false_of_ne h3,cond_false,h1,h2,h3,or_self,if_false,int_eq];cases (ar n.1).isSome with
    |false=>rfl
    |true=>by_cases c1:n.2.1=ByteArray.empty<;>by_cases c2:n.2.2=0<;>simp [c1,c2]
theorem qad [Dfr] (l:List Nd) (b:Bool) (hl:l.length≤4611686018427387904) (hs:∀n∈l,n.2.1.size≤9223372036854775807):∀(r:List Nd) (i:Nat),l.drop i=r→znv l b (i:Int)=some (bif r.all right then (0,(l,b)) else (1,(l,false)))
 |[],i,h=>by obtain ⟨h1,h2⟩:=drop_nil h;rw [zvl];simp only [h2,cond_false,List.all_nil,cond_true]
 |x::r,i,h=>by obtain ⟨h1,h2,h3,h4,h5,h6⟩:=zab h;have hx:x.2.1.size≤9223372036854775807:=hs x (List.mem_of_mem_drop (by rw [h];exact List.mem_cons_self ..));rw [zvl];simp only [h2,h3,h4,cond_true,yaj x hx,Option.bind_some,zar (show i<9223372036854775807 by omega),qad l b hl hs r (i+1) h5,List.all_cons];cases right x<;>rfl
theorem xkg [Dfr] {l:List Nd}:one l=decide (sz l=l.length∧1≤l.length):=by
 unfold one sz;cases h:P l with
 |none=>
  by_cases h1:l.length=0
  ·simp [h1]
  ·simp;omega
 |some q=>
  obtain ⟨t,r⟩:=q;obtain ⟨h1,h2⟩:=zyl h;have:=congrArg List.length h2;rw [List.length_append,T.zac] at this;have hp:=t.zda;cases r with
  |nil=>simp at this ⊢;omega
  |cons x r=>simp at this ⊢;omega
theorem yag [Dfr] (l:List Nd) (hl:l.length≤4611686018427387904) (hs:∀n∈l,n.2.1.size≤9223372036854775807):qes l=some (whole l):=by
 rw [quk];have:=qad l false hl hs l 0 rfl;rw [Int.natCast_zero] at this;rw [this];unfold whole;rw [xkg];cases h:l.all right with
 |true=>
  simp only [cond_true,Option.bind_some,Bool.true_and,Nat.beq_refl,cond_true,qae l hl];by_cases h1:1≤l.length
  ·by_cases h2:l.length≤200
   ·have e1:decide ((l.length:Int)≥1)=true:=decide_eq_true (by omega);have e2:decide ((l.length:Int)≤200)=true:=decide_eq_true (by omega);simp only [e1,e2,cond_true,h1,h2,and_true,decide_true,Bool.true_and];by_cases h3:sz l=l.length
    ·simp [h3]
    ·have:((sz l:Int)==(l.length:Int))=false:=beq_false_of_ne (by omega);simp [h3,this]
   ·have e1:decide ((l.length:Int)≥1)=true:=decide_eq_true (by omega);have e2:decide ((l.length:Int)≤200)=false:=decide_eq_false (by omega);simp [e1,e2,h2]
  ·have e1:decide ((l.length:Int)≥1)=false:=decide_eq_false (by omega);simp [e1,h1]
 |false=>simp [Nat.beq]
def zea (l:List Nd):List (List Nd):=match P l with|some (t,_)=>t.kids.map T.row|none=>[]
theorem zgw [Dfr] {l:List Nd} {i:Nat} {a:T} {r:List Nd} (h:l.drop i=a.row++r):cut l (i:Int) ((i+a.size:Nat):Int)=a.row∧l.drop (i+a.size)=r∧i+a.size≤l.length∧zaw (i:Int) ((i+a.size:Nat):Int) l.length=true:=by
 have hlen:=congrArg List.length h;rw [List.length_drop,List.length_append,T.zac] at hlen;have hp:=a.zda;refine ⟨?_,?_,by omega,zep (by omega) (by omega)⟩
 ·rw [zpg,List.drop_take,h];rw [show i+a.size-i=a.row.length by rw [T.zac];omega,List.take_left]
 ·rw [←List.drop_drop,h,←T.zac,List.drop_left]
theorem zit [Dfr] (l:List Nd) (hl:l.length≤4611686018427387904):zcr l=some (zea l):=by
 rw [yak];simp only [qae l hl,Option.bind_some];unfold zea sz;cases h:P l with
 |none=>rfl
 |some q=>
  obtain ⟨t,r⟩:=q;obtain ⟨hok,hl2⟩:=zyl h;have hp:=t.zda;have e0:(((t.size:Nat):Int)==0)=false:=beq_false_of_ne (by omega);simp only [e0,cond_false];cases t with
  |n0 n=>
   have ha:ar n.1=some 0:=hok;have hix:ix l 0=n:=by rw [hl2];rfl
   have hid:zaa 0 l.length=true:=zam (by rw [hl2];simp [T.row]);rw [zff];simp only [hid,hix,cond_true,zcb,Option.bind_some,arI,ha];rfl
  |n1 n a=>
   have ha:ar n.1=some 1:=hok.1;have hix:ix l 0=n:=by rw [hl2];rfl
   have hid:zaa 0 l.length=true:=zam (by rw [hl2];simp [T.row]);have hd1:l.drop 1=a.row++r:=by rw [hl2];rfl
   have hw:=zom l hl l.length 1 (by omega) (by have:=congrArg List.length hl2;simp [T.row] at this;omega);obtain ⟨k1,k2,k3,k4⟩:=zgw hd1;unfold wk at hw;rw [hd1,qfr hok.2] at hw;rw [zff];simp only [hid,hix,cond_true,zcb,Option.bind_some,arI,ha];rw [show decide ((0:Int)<((1:Nat):Int))=true from rfl,show (1:Int)=((1:Nat):Int) from rfl,hw];simp only [cond_true,Option.bind_some,k1,k4,room (show (([]:List (List Nd)).length+1)*24≤140737488355328 by decide)];rw [zff];simp only [hid,hix,cond_true,zcb,Option.bind_some,arI,ha];rfl
  |n2 n a b=>
   have ha:ar n.1=some 2:=hok.1;have hix:ix l 0=n:=by rw [hl2];rfl
   have hid:zaa 0 l.length=true:=zam (by rw [hl2];simp [T.row]);have hd1:l.drop 1=a.row++(b.row++r):=by rw [hl2];simp [T.row]
   have hw:=zom l hl l.length 1 (by omega) (by have:=congrArg List.length hl2;simp [T.row] at this;omega);obtain ⟨k1,k2,k3,k4⟩:=zgw hd1;unfold wk at hw;rw [hd1,qfr hok.2.1] at hw;have hw2:=zom l hl l.length (1+a.size) (by omega) k3;obtain ⟨j1,j2,j3,j4⟩:=zgw k2;unfold wk at hw2;rw [k2,qfr hok.2.2] at hw2;rw [zff];simp only [hid,hix,cond_true,zcb,Option.bind_some,arI,ha];rw [show decide ((0:Int)<((2:Nat):Int))=true from rfl,show (1:Int)=((1:Nat):Int) from rfl,hw];simp only [cond_true,Option.bind_some,k1,k4,room (show (([]:List (List Nd)).length+1)*24≤140737488355328 by decide)];rw [zff];simp only [hid,hix,cond_true,zcb,Option.bind_some,arI,ha];rw [show decide (w64 (0+((1:Nat):Int))<((2:Nat):Int))=true from rfl,hw2];simp only [cond_true,Option.bind_some,j1,j4,List.nil_append,room (show (([a.row]:List (List Nd)).length+1)*24≤140737488355328 by simp)];rw [zff]
   simp only [hid,hix,cond_true,zcb,Option.bind_some,arI,ha];rfl
theorem qcb [Dfr] (m:Tm):zea m.row=m.t.kids.map T.row:=by unfold zea;rw [show P m.row=some (m.t,[]) from qds m.t_ok]
end Go.Proofs.YtjolkdjkhekbnaaGreatDoor.Sv
namespace Go.Rd
open Go Go.Sv
def on (s:Int):Int:=if s=1∨s=2 then s+2 else s
def both (a b:Int):Int:=if on a=on b then (if b>a then b else a) else 0
def behind (a b t:Int):Int:=if b=t then (if on a=on t then a else 0) else 0
def so2 (k x y:Int):Int:=
 if x=0 then 0 else if y=0 then 0
 else if k=6 then (if x>2 then 0 else if y>2 then 0 else both x y)
 else if k=7 then both x y
 else if k=5 then (if behind x y 2>behind x y 1 then behind x y 2 else behind x y 1)
 else if k=8 then behind x y 1
 else if k=10 then (if x=1 then (if y=1 then 2 else 0) else 0)
 else if k=12 then (if on x=3 then (if y=1 then 4 else 0) else 0)
 else if k=13 then (if on x=4 then (if y=1 then 4 else 0) else 0)
 else 0
def so1 (k x:Int):Int:=
 if x=0 then 0
 else if k=9 then (if on x=4 then x-1 else 0)
 else if k=14 then (if x=1 then 4 else 0)
 else 0
namespace Tm
theorem xiq (a b:Tm):(seq a b).so=so2 5 a.so b.so:=by
 rcases cls a with ⟨h,h1,h2,h3,h4⟩|⟨h,h1,h2,h3,h4⟩|⟨h,h1,h2,h3,h4⟩|⟨h,h1,h2,h3,h4⟩|⟨h,h1,h2,h3,h4⟩<;>
 rcases cls b with ⟨k,k1,k2,k3,k4⟩|⟨k,k1,k2,k3,k4⟩|⟨k,k1,k2,k3,k4⟩|⟨k,k1,k2,k3,k4⟩|⟨k,k1,k2,k3,k4⟩<;>
 (rw [h,k];simp only [so,pl,pa,po,qo,h1,h2,h3,h4,k1,k2,k3,k4];rfl)
theorem xit (a b:Tm):(alt a b).so=so2 6 a.so b.so:=by
 rcases cls a with ⟨h,h1,h2,h3,h4⟩|⟨h,h1,h2,h3,h4⟩|⟨h,h1,h2,h3,h4⟩|⟨h,h1,h2,h3,h4⟩|⟨h,h1,h2,h3,h4⟩<;>
 rcases cls b with ⟨k,k1,k2,k3,k4⟩|⟨k,k1,k2,k3,k4⟩|⟨k,k1,k2,k3,k4⟩|⟨k,k1,k2,k3,k4⟩|⟨k,k1,k2,k3,k4⟩<;>
 (rw [h,k];simp only [so,pl,pa,po,qo,h1,h2,h3,h4,k1,k2,k3,k4];rfl)
theorem xir (a b:Tm):(par a b).so=so2 7 a.so b.so:=by
 rcases cls a with ⟨h,h1,h2,h3,h4⟩|⟨h,h1,h2,h3,h4⟩|⟨h,h1,h2,h3,h4⟩|⟨h,h1,h2,h3,h4⟩|⟨h,h1,h2,h3,h4⟩<;>
 rcases cls b with ⟨k,k1,k2,k3,k4⟩|⟨k,k1,k2,k3,k4⟩|⟨k,k1,k2,k3,k4⟩|⟨k,k1,k2,k3,k4⟩|⟨k,k1,k2,k3,k4⟩<;>
 (rw [h,k];simp only [so,pl,pa,po,qo,h1,h2,h3,h4,k1,k2,k3,k4];rfl)
theorem xfr (a b:Tm):(hand a b).so=so2 8 a.so b.so:=by
 rcases cls a with ⟨h,h1,h2,h3,h4⟩|⟨h,h1,h2,h3,h4⟩|⟨h,h1,h2,h3,h4⟩|⟨h,h1,h2,h3,h4⟩|⟨h,h1,h2,h3,h4⟩<;>
 rcases cls b with ⟨k,k1,k2,k3,k4⟩|⟨k,k1,k2,k3,k4⟩|⟨k,k1,k2,k3,k4⟩|⟨k,k1,k2,k3,k4⟩|⟨k,k1,k2,k3,k4⟩<;>
 (rw [h,k];simp only [so,pl,pa,po,qo,h1,h2,h3,h4,k1,k2,k3,k4];rfl)
theorem xfq (a b:Tm):(pair a b).so=so2 10 a.so b.so:=by
 rcases cls a with ⟨h,h1,h2,h3,h4⟩|⟨h,h1,h2,h3,h4⟩|⟨h,h1,h2,h3,h4⟩|⟨h,h1,h2,h3,h4⟩|⟨h,h1,h2,h3,h4⟩<;>
 rcases cls b with ⟨k,k1,k2,k3,k4⟩|⟨k,k1,k2,k3,k4⟩|⟨k,k1,k2,k3,k4⟩|⟨k,k1,k2,k3,k4⟩|⟨k,k1,k2,k3,k4⟩<;>
 (rw [h,k];simp only [so,pl,pa,po,qo,h1,h2,h3,h4,k1,k2,k3,k4];rfl)
theorem yyw (a b:Tm):(going a b).so=so2 12 a.so b.so:=by
 rcases cls a with ⟨h,h1,h2,h3,h4⟩|⟨h,h1,h2,h3,h4⟩|⟨h,h1,h2,h3,h4⟩|⟨h,h1,h2,h3,h4⟩|⟨h,h1,h2,h3,h4⟩<;>
 rcases cls b with ⟨k,k1,k2,k3,k4⟩|⟨k,k1,k2,k3,k4⟩|⟨k,k1,k2,k3,k4⟩|⟨k,k1,k2,k3,k4⟩|⟨k,k1,k2,k3,k4⟩<;>
 (rw [h,k];simp only [so,pl,pa,po,qo,h1,h2,h3,h4,k1,k2,k3,k4];rfl)
theorem yyu (a b:Tm):(stack a b).so=so2 13 a.so b.so:=by
 rcases cls a with ⟨h,h1,h2,h3,h4⟩|⟨h,h1,h2,h3,h4⟩|⟨h,h1,h2,h3,h4⟩|⟨h,h1,h2,h3,h4⟩|⟨h,h1,h2,h3,h4⟩<;>
 rcases cls b with ⟨k,k1,k2,k3,k4⟩|⟨k,k1,k2,k3,k4⟩|⟨k,k1,k2,k3,k4⟩|⟨k,k1,k2,k3,k4⟩|⟨k,k1,k2,k3,k4⟩<;>
 (rw [h,k];simp only [so,pl,pa,po,qo,h1,h2,h3,h4,k1,k2,k3,k4];rfl)
theorem yyx (a:Tm):(block a).so=so1 9 a.so:=by
 rcases cls a with ⟨h,h1,h2,h3,h4⟩|⟨h,h1,h2,h3,h4⟩|⟨h,h1,h2,h3,h4⟩|⟨h,h1,h2,h3,h4⟩|⟨h,h1,h2,h3,h4⟩<;>
 (rw [h];simp only [so,pl,pa,po,qo,h1,h2,h3,h4];rfl)
theorem xis (s:Int) (a:Tm):(fin s a).so=so1 14 a.so:=by
 rcases cls a with ⟨h,h1,h2,h3,h4⟩|⟨h,h1,h2,h3,h4⟩|⟨h,h1,h2,h3,h4⟩|⟨h,h1,h2,h3,h4⟩|⟨h,h1,h2,h3,h4⟩<;>
 (rw [h];simp only [so,pl,pa,po,qo,h1,h2,h3,h4];rfl)
theorem ylu (a:Tm):0≤a.so∧a.so≤4:=by rcases cls a with h|h|h|h|h<;>omega
theorem yyv (a:Tm):a.po=decide (on a.so=3):=by rcases cls a with ⟨h,h1,h2,h3,h4⟩|⟨h,h1,h2,h3,h4⟩|⟨h,h1,h2,h3,h4⟩|⟨h,h1,h2,h3,h4⟩|⟨h,h1,h2,h3,h4⟩<;>(rw [h,h3];rfl)
theorem xko (a:Tm):a.qo=decide (on a.so=4):=by rcases cls a with ⟨h,h1,h2,h3,h4⟩|⟨h,h1,h2,h3,h4⟩|⟨h,h1,h2,h3,h4⟩|⟨h,h1,h2,h3,h4⟩|⟨h,h1,h2,h3,h4⟩<;>(rw [h,h4];rfl)
end Tm
noncomputable def tmOf (l:List Nd):Option Tm:=if h:whole l=true then some (Classical.choose (qgb.1 h)) else none
theorem zih {l:List Nd} {m:Tm}:tmOf l=some m↔l=m.row∧m.fine∧m.size≤200:=by
 unfold tmOf;split
 ·rename_i h;have hs:=Classical.choose_spec (qgb.1 h);constructor
  ·intro e;cases e;exact hs
  ·rintro ⟨e,_⟩
   congr 1
   exact Tm.qjm (hs.1.symm.trans e)
 ·rename_i h;constructor
  ·intro e;cases e
  ·intro e;exact absurd (qgb.2 ⟨m,e⟩) h
theorem yrc {l:List Nd}:tmOf l=none↔whole l=false:=by
 unfold tmOf;split
 ·rename_i h;simp [h]
 ·rename_i h;simpa using h
theorem qvo (l:List Nd):whole l=(tmOf l).isSome:=by
 cases h:tmOf l with
 |none=>rw [yrc.1 h];rfl
 |some m=>rw [qgb.2 ⟨m,zih.1 h⟩];rfl
noncomputable def sOf (l:List Nd):Int:=match tmOf l with|some m=>m.so|none=>0
theorem yse {m:Tm} (h:m.fine) (hs:m.size≤200):sOf m.row=m.so:=by unfold sOf;rw [zih.2 ⟨rfl,h,hs⟩]
theorem ysf (l:List Nd):0≤sOf l∧sOf l≤4:=by
 unfold sOf;cases tmOf l with
 |none=>exact ⟨Int.le_refl _,by decide⟩
 |some m=>exact m.ylu
def hit (names:List ByteArray) (n:Nd):Bool:=decide (n.1=1)&&decide (n.2.1∈names)
def T.rw (ns:List ByteArray):T→T
 | .n0 n=>bif hit ns n then .n2 (nd 6) (.n0 n) (.n0 (nd 3)) else .n0 n
 | .n1 n a=>.n1 n (a.rw ns)
 | .n2 n a b=>.n2 n (a.rw ns) (b.rw ns)
namespace Tm
end Tm
namespace Tm
def zjt (x c:Tm):Tm:=match x with
 |fin s d=>fin s (seq d c)
 |y=>stack y c
def par' (x y:Tm):Tm:=match x,y with
 |over s,over z=>over (bs s z)
 |fin s c,fin z d=>fin (bs s z) (par c d)
 |x,y=>par x y
theorem znh (x y:Tm):(∃s z,x=over s∧y=over z∧par' x y=over (bs s z))∨(∃s c z d,x=fin s c∧y=fin z d∧par' x y=fin (bs s z) (par c d))∨par' x y=par x y:=by
 unfold par';split
 ·exact .inl ⟨_,_,rfl,rfl,rfl⟩
 ·exact .inr (.inl ⟨_,_,_,_,rfl,rfl,rfl⟩)
 ·exact .inr (.inr rfl)
theorem andT {a b:Bool} (h:a=true) (k:b=true):(a&&b)=true:=by rw [h,k];rfl
theorem qoz (x c:Tm):(zjt x c).size=x.size+c.size+1:=by cases x<;>simp only [zjt,zbu,zau,zca];omega
theorem ytp (x y:Tm):(par' x y).size≤x.size+y.size+1:=by
 unfold par';split
 ·simp only [qgn];omega
 ·simp only [zbu,zbj];omega
 ·simp only [zbj];omega
def stS (f:Tm→Tm):Tm→Tm
 |skip=>over 1
 |throw=>over 2
 |hand a b=>(match f a with
  |over s=>if s=2 then f b else over s
  |y=>hand y b)
 |seq a b=>(match f a with
  |over s=>if s=1 then f b else over s
  |fin s c=>if s=1 then zjt (f b) c else fin s c
  |y=>seq y b)
 |stack a c=>zjt (f a) c
 |going a b=>(match f a with
  |over s=>if s=1 then fin 1 b else fin s skip
  |y=>going y b)
 |par a b=>par' (f a) (f b)
 |block a=>(match f a with
  |fin s c=>if s=1 then over 1 else if s=2 then f c else block (fin s c)
  |y=>block y)
 |m=>m
def stF:Nat→Tm→Tm
 |0,m=>m
 |n+1,m=>stS (stF n) m
theorem yyr {f:Tm→Tm} (hf:∀x,(f x).size≤x.size):∀m,(stS f m).size≤m.size:=by
 intro m;cases m with
 |skip=>exact Nat.le_refl _
 |throw=>exact Nat.le_refl _
 |hand a b=>
  have h1:=hf a;have h2:=hf b;simp only [stS];split
  ·split
   ·rw [zay];omega
   ·rw [zay,qgn];omega
  ·rw [zay,zay];omega
 |seq a b=>
  have h1:=hf a;have h2:=hf b;simp only [stS];split
  ·split
   ·rw [zau];omega
   ·rw [zau,qgn];omega
  ·rename_i s c e;rw [e,zbu] at h1;split
   ·rw [qoz,zau];omega
   ·rw [zbu,zau];omega
  ·rw [zau,zau];omega
 |stack a c=>have h1:=hf a;simp only [stS];rw [qoz,zca];omega
 |going a b=>
  have h1:=hf a;have h2:=b.zda;simp only [stS];split
  ·split
   ·rw [zbo,zbu];omega
   ·rw [zbo,zbu,yrt];omega
  ·rw [zbo,zbo];omega
 |par a b=>have h1:=hf a;have h2:=hf b;have:=ytp (f a) (f b);simp only [stS];rw [zbj];omega
 |block a=>
  have h1:=hf a;simp only [stS];split
  ·rename_i s c e;rw [e,zbu] at h1;have h2:=hf c;split
   ·rw [zan,qgn];omega
   ·split
    ·rw [zan];omega
    ·rw [zan,zan,zbu];omega
  ·rw [zan,zan];omega
 |_=>exact Nat.le_refl _
theorem qni:∀(n:Nat) (m:Tm),(stF n m).size≤m.size
 |0,m=>Nat.le_refl _
 |n+1,m=>yyr (qni n) m
theorem ycz {f g:Tm→Tm} {m:Tm} (hf:∀x,(f x).size≤x.size) (h:∀x:Tm,x.size<m.size→f x=g x):stS f m=stS g m:=by
 cases m with
 |hand a b=>simp only [stS,h a (by rw [zay];omega),h b (by rw [zay];omega)]
 |seq a b=>simp only [stS,h a (by rw [zau];omega),h b (by rw [zau];omega)]
 |stack a c=>simp only [stS,h a (by rw [zca];omega)]
 |going a b=>simp only [stS,h a (by rw [zbo];omega)]
 |par a b=>simp only [stS,h a (by rw [zbj];omega),h b (by rw [zbj];omega)]
 |block a=>
  have h1:=hf a;simp only [stS,←h a (by rw [zan];omega)];split
  ·rename_i s c e;rw [e,zbu] at h1;rw [h c (by rw [zan];omega)]
  ·rfl
 |_=>rfl
theorem ylr:∀(n:Nat) (m:Tm),m.size≤n→stF n m=stF (n+1) m
 |0,m,h=>by have:=m.zda;omega
 |n+1,m,h=>ycz (qni n) fun x hx=>ylr n x (by omega)
theorem xcw:∀(k:Nat) (m:Tm),stF (m.size+k) m=stF m.size m
 |0,m=>rfl
 |k+1,m=>by rw [←xcw k m];exact (ylr (m.size+k) m (by omega)).symm
def st (m:Tm):Tm:=stF m.size m
theorem zbz (m:Tm):m.st.size≤m.size:=qni _ m
theorem qgh (m:Tm):m.st=stS st m:=by
 have hp:=m.zda;unfold st;obtain ⟨k,hk⟩:∃k,m.size=k+1:=⟨m.size-1,by omega⟩;rw [hk];refine ycz (qni k) fun x hx=> ?_
 obtain ⟨j,rfl⟩:∃j,k=x.size+j:=⟨k-x.size,by omega⟩;exact xcw j x
theorem zyx (s:ByteArray):(act s).st=act s:=by rw [qgh];rfl
theorem zkq:yield.st=yield:=by rw [qgh];rfl
theorem zti:skip.st=over 1:=by rw [qgh];rfl
theorem zpp:throw.st=over 2:=by rw [qgh];rfl
theorem zgf (s:Int):(over s).st=over s:=by rw [qgh];rfl
theorem qgi (a b:Tm):(alt a b).st=alt a b:=by rw [qgh];rfl
theorem zwj (a b:Tm):(pair a b).st=pair a b:=by rw [qgh];rfl
theorem zpj (s:Int) (a:Tm):(fin s a).st=fin s a:=by rw [qgh];rfl
def hand' (x b:Tm):Tm:=match x with
 |over s=>if s=2 then b.st else over s
 |y=>hand y b
def seq' (x b:Tm):Tm:=match x with
 |over s=>if s=1 then b.st else over s
 |fin s c=>if s=1 then zjt b.st c else fin s c
 |y=>seq y b
def qav (x b:Tm):Tm:=match x with
 |over s=>if s=1 then fin 1 b else fin s skip
 |y=>going y b
def block' (x:Tm):Tm:=match x with
 |fin s c=>if s=1 then over 1 else if s=2 then c.st else block (fin s c)
 |y=>block y
theorem ztj (a b:Tm):(hand a b).st=hand' a.st b:=by rw [qgh];rfl
theorem zyb (a b:Tm):(seq a b).st=seq' a.st b:=by rw [qgh];rfl
theorem zkr (a c:Tm):(stack a c).st=zjt a.st c:=by rw [qgh];rfl
theorem zlt (a b:Tm):(going a b).st=qav a.st b:=by rw [qgh];rfl
theorem zob (a b:Tm):(par a b).st=par' a.st b.st:=by rw [qgh];rfl
theorem zlu (a:Tm):(block a).st=block' a.st:=by rw [qgh];rfl
theorem qbl {p:Tm→Prop} (h:∀m,(∀x:Tm,x.size<m.size→p x)→p m) (m:Tm):p m:=by
 have:∀n,∀m:Tm,m.size<n→p m:=by
  intro n
  induction n with
  |zero=>intro m hm;omega
  |succ n ih=>intro m hm;exact h m fun x hx=>ih x (by omega)
 exact this (m.size+1) m (by omega)
def settled (m:Tm):Prop:=m.st=m
theorem xkm:∀m:Tm,m.st.st=m.st:=by
 intro m;refine qbl (p:=fun m=>m.st.st=m.st) (fun m ih=> ?_) m;cases m with
 |act s=>rw [zyx,zyx]
 |skip=>rw [zti,zgf]
 |throw=>rw [zpp,zgf]
 |yield=>rw [zkq,zkq]
 |over s=>rw [zgf,zgf]
 |alt a b=>rw [qgi,qgi]
 |pair a b=>rw [zwj,zwj]
 |fin s a=>rw [zpj,zpj]
 |hand a b=>
  have iha:=ih a (by rw [zay];omega);have ihb:=ih b (by rw [zay];omega);rw [ztj];generalize a.st=x at iha;cases x<;>simp only [hand']<;>first|(rw [ztj,iha];rfl)|skip
  split
  ·exact ihb
  ·rw [zgf]
 |seq a b=>
  have iha:=ih a (by rw [zau];omega);have ihb:=ih b (by rw [zau];omega);rw [zyb];generalize a.st=x at iha;cases x<;>simp only [seq']<;>first|(rw [zyb,iha];rfl)|skip
  ·split
   ·exact ihb
   ·rw [zgf]
  ·split
   ·generalize b.st=y at ihb;cases y<;>simp only [zjt]<;>first|(rw [zkr,ihb];rfl)|rw [zpj]
   ·rw [zpj]
 |stack a c=>have iha:=ih a (by rw [zca];omega);rw [zkr];generalize a.st=x at iha;cases x<;>simp only [zjt]<;>first|(rw [zkr,iha];rfl)|rw [zpj]
 |going a b=>
  have iha:=ih a (by rw [zbo];omega);rw [zlt];generalize a.st=x at iha;cases x<;>simp only [qav]<;>first|(rw [zlt,iha];rfl)|skip
  split<;>rw [zpj]
 |par a b=>
  have iha:=ih a (by rw [zbj];omega);have ihb:=ih b (by rw [zbj];omega);rw [zob];rcases znh a.st b.st with ⟨s,z,_,_,e⟩|⟨s,c,z,d,_,_,e⟩|e
  ·rw [e,zgf]
  ·rw [e,zpj]
  ·rw [e,zob,iha,ihb,e]
 |block a=>
  have iha:=ih a (by rw [zan];omega);have hsz:=a.zbz;rw [zlu];generalize a.st=x at iha hsz;cases x<;>simp only [block']<;>first|(rw [zlu,iha];rfl)|skip
  rename_i s c;split
  ·rw [zgf]
  ·split
   ·exact ih c (by rw [zan];rw [zbu] at hsz;omega)
   ·rename_i h1 h2;rw [zlu,zpj];simp only [block',h1,h2,if_false]
theorem yrj:∀m:Tm,(m.po=true→m.st.po=true)∧(m.qo=true→m.st.qo=true):=by
 intro m;refine qbl (p:=fun m=>(m.po=true→m.st.po=true)∧(m.qo=true→m.st.qo=true)) (fun m ih=> ?_) m;cases m with
 |act s=>rw [zyx];exact ⟨fun h=>h,fun h=>h⟩
 |skip=>rw [zti];exact ⟨fun h=>rfl,fun h=>by cases h⟩
 |throw=>rw [zpp];exact ⟨fun h=>rfl,fun h=>by cases h⟩
 |yield=>rw [zkq];exact ⟨fun h=>h,fun h=>h⟩
 |over s=>rw [zgf];exact ⟨fun h=>h,fun h=>h⟩
 |alt a b=>rw [qgi];exact ⟨fun h=>h,fun h=>h⟩
 |pair a b=>rw [zwj];exact ⟨fun h=>h,fun h=>h⟩
 |fin s a=>rw [zpj];exact ⟨fun h=>h,fun h=>h⟩
 |hand a b=>
  obtain ⟨iha,_⟩:=ih a (by rw [zay];omega);obtain ⟨ihb,_⟩:=ih b (by rw [zay];omega);rw [ztj];refine ⟨fun h=> ?_,fun h=>by cases h⟩;simp only [po,Bool.and_eq_true] at h;have h1:=iha h.1;generalize a.st=x at h1;cases x<;>simp only [hand']<;>first|exact andT h1 h.2|skip
  split
  ·exact ihb (zbv h.2)
  ·rfl
 |seq a b=>
  obtain ⟨iha,iha'⟩:=ih a (by rw [zau];omega);obtain ⟨ihb,ihb'⟩:=ih b (by rw [zau];omega);rw [zyb];refine ⟨fun h=> ?_,fun h=> ?_⟩
  ·simp only [po,Bool.and_eq_true] at h;have h1:=iha h.1;generalize a.st=x at h1;cases x<;>simp only [seq']<;>first|exact andT h1 h.2|skip
   ·split
    ·exact ihb (zbv h.2)
    ·rfl
   ·cases h1
  ·simp only [qo,Bool.and_eq_true] at h;have h1:=iha' h.1;generalize a.st=x at h1;cases x<;>simp only [seq']<;>first|exact andT h1 h.2|skip
   ·cases h1
   ·split
    ·have h2:=ihb' (zhe h.2);rename_i s c _;have h1':c.pl=true:=h1;generalize b.st=y at h2;cases y<;>simp only [zjt]<;>first|exact andT h2 h1'|exact andT h2 h1'
    ·exact h1
 |stack a c=>obtain ⟨_,iha⟩:=ih a (by rw [zca];omega);rw [zkr];refine ⟨fun h=>(by cases h),fun h=> ?_⟩;simp only [qo,Bool.and_eq_true] at h;have h1:=iha h.1;generalize a.st=x at h1;cases x<;>simp only [zjt]<;>exact andT h1 h.2
 |going a b=>
  obtain ⟨iha,_⟩:=ih a (by rw [zbo];omega);rw [zlt];refine ⟨fun h=>(by cases h),fun h=> ?_⟩;simp only [qo,Bool.and_eq_true] at h;have h1:=iha h.1;generalize a.st=x at h1;cases x<;>simp only [qav]<;>first|exact andT h1 h.2|skip
  split
  ·exact h.2
  ·rfl
 |par a b=>
  obtain ⟨iha,iha'⟩:=ih a (by rw [zbj];omega);obtain ⟨ihb,ihb'⟩:=ih b (by rw [zbj];omega);rw [zob];refine ⟨fun h=> ?_,fun h=> ?_⟩
  ·simp only [po,Bool.and_eq_true] at h;have h1:=iha h.1;have h2:=ihb h.2;generalize a.st=x at h1;generalize b.st=y at h2;unfold par';split
   ·rfl
   ·cases h1
   ·simp only [po,Bool.and_eq_true];exact ⟨h1,h2⟩
  ·simp only [qo,Bool.and_eq_true] at h;have h1:=iha' h.1;have h2:=ihb' h.2;generalize a.st=x at h1;generalize b.st=y at h2;unfold par';split
   ·cases h1
   ·simp only [qo,pl,Bool.and_eq_true] at h1 h2 ⊢;exact ⟨h1,h2⟩
   ·simp only [qo,Bool.and_eq_true];exact ⟨h1,h2⟩
 |block a=>
  obtain ⟨_,iha⟩:=ih a (by rw [zan];omega);have hsz:=a.zbz;rw [zlu];refine ⟨fun h=> ?_,fun h=>by cases h⟩;have h1:=iha h;generalize a.st=x at h1 hsz;cases x<;>simp only [block']<;>first|exact h1|skip
  rename_i s c;split
  ·rfl
  ·split
   ·exact (ih c (by rw [zan];rw [zbu] at hsz;omega)).1 (zbv h1)
   ·exact h1
theorem qyl {m:Tm} (h:m.po=true):m.st.po=true:=(yrj m).1 h
theorem qyk {m:Tm} (h:m.qo=true):m.st.qo=true:=(yrj m).2 h
theorem xfn {p:ByteArray→Prop} {q:Int→Prop} (q1:q 1) (q2:q 2) (qb:∀a b,q a→q b→q (bs a b)):∀m:Tm,m.good p q→m.st.good p q:=by
 intro m;refine qbl (p:=fun m=>m.good p q→m.st.good p q) (fun m ih=> ?_) m;have gs:∀x c:Tm,x.good p q→c.good p q→(zjt x c).good p q:=fun x c hx hc=>by cases x<;>simp only [zjt,good] at hx ⊢<;>first|exact ⟨hx,hc⟩|exact ⟨hx.1,hx.2,hc⟩
 cases m with
 |act s=>rw [zyx];exact fun h=>h
 |skip=>rw [zti];exact fun _=>q1
 |throw=>rw [zpp];exact fun _=>q2
 |yield=>rw [zkq];exact fun h=>h
 |over s=>rw [zgf];exact fun h=>h
 |alt a b=>rw [qgi];exact fun h=>h
 |pair a b=>rw [zwj];exact fun h=>h
 |fin s a=>rw [zpj];exact fun h=>h
 |hand a b=>
  intro h;have h1:=ih a (by rw [zay];omega) h.1;have h2:=ih b (by rw [zay];omega) h.2;rw [ztj];generalize a.st=x at h1;cases x<;>simp only [hand']<;>first|exact ⟨h1,h.2⟩|skip
  split
  ·exact h2
  ·exact h1
 |seq a b=>
  intro h;have h1:=ih a (by rw [zau];omega) h.1;have h2:=ih b (by rw [zau];omega) h.2;rw [zyb];generalize a.st=x at h1;cases x<;>simp only [seq']<;>first|exact ⟨h1,h.2⟩|skip
  ·split
   ·exact h2
   ·exact h1
  ·split
   ·exact gs _ _ h2 h1.2
   ·exact h1
 |stack a c=>intro h;rw [zkr];exact gs _ _ (ih a (by rw [zca];omega) h.1) h.2
 |going a b=>
  intro h;have h1:=ih a (by rw [zbo];omega) h.1;rw [zlt];generalize a.st=x at h1;cases x<;>simp only [qav]<;>first|exact ⟨h1,h.2⟩|skip
  split
  ·exact ⟨q1,h.2⟩
  ·exact ⟨h1,trivial⟩
 |par a b=>
  intro h;have h1:=ih a (by rw [zbj];omega) h.1;have h2:=ih b (by rw [zbj];omega) h.2;rw [zob];generalize a.st=x at h1;generalize b.st=y at h2;unfold par';split
  ·exact qb _ _ h1 h2
  ·exact ⟨qb _ _ h1.1 h2.1,h1.2,h2.2⟩
  ·exact ⟨h1,h2⟩
 |block a=>
  intro h;have h1:=ih a (by rw [zan];omega) h;have hsz:=a.zbz;rw [zlu];generalize a.st=x at h1 hsz;cases x<;>simp only [block']<;>first|exact h1|skip
  rename_i s c;split
  ·exact q1
  ·split
   ·exact ih c (by rw [zan];rw [zbu] at hsz;omega) h1.2
   ·exact h1
theorem qjh {m:Tm} (h:m.fine):m.st.fine:=xfn (by decide) (by decide) (fun a b ha hb=>xhq ha hb) m h
end Tm
end Go.Rd
