/- Terms and what goes on, as trees with named kinds; their sorts. Plain Lean, no program in sight. -/
import Derived.Test.YtjolkdjkhekbnaaGreatDoorM1
namespace Go.Rd
open Go Go.Sv
inductive Tm where
 |act (s:ByteArray)
 |skip
 |throw
 |yield
 |over (s:Int)
 |seq (a b:Tm)
 |alt (a b:Tm)
 |par (a b:Tm)
 |hand (a b:Tm)
 |block (a:Tm)
 |pair (a b:Tm)
 |going (a b:Tm)
 |stack (a b:Tm)
 |fin (s:Int) (a:Tm)
 deriving DecidableEq
abbrev nd (k:Int):Nd:=(k,ByteArray.empty,0)
namespace Tm
def t:Tm→T
 |act s=>.n0 (1,s,0)
 |skip=>.n0 (nd 2)
 |throw=>.n0 (nd 3)
 |yield=>.n0 (nd 4)
 |over s=>.n0 (11,ByteArray.empty,s)
 |seq a b=>.n2 (nd 5) a.t b.t
 |alt a b=>.n2 (nd 6) a.t b.t
 |par a b=>.n2 (nd 7) a.t b.t
 |hand a b=>.n2 (nd 8) a.t b.t
 |block a=>.n1 (nd 9) a.t
 |pair a b=>.n2 (nd 10) a.t b.t
 |going a b=>.n2 (nd 12) a.t b.t
 |stack a b=>.n2 (nd 13) a.t b.t
 |fin s a=>.n1 (14,ByteArray.empty,s) a.t
def row (m:Tm):List Nd:=m.t.row
def size (m:Tm):Nat:=m.t.size
theorem t_ok (m:Tm):m.t.ok:=by
 induction m<;>first|exact (rfl:ar _=_)|exact ⟨rfl,by assumption⟩|exact ⟨rfl,by assumption,by assumption⟩
theorem zsj:∀{a b:Tm},a.t=b.t→a=b
 | .act s,m,h=>by
   cases m<;>simp [t,nd] at h
   rw [h]
 | .over s,m,h=>by
   cases m<;>simp [t,nd] at h
   rw [h]
 | .skip,m,h=>by cases m<;>simp [t,nd] at h;rfl
 | .throw,m,h=>by cases m<;>simp [t,nd] at h;rfl
 | .yield,m,h=>by cases m<;>simp [t,nd] at h;rfl
 | .block a,m,h=>by
   cases m<;>simp [t,nd] at h
   rw [zsj h]
 | .fin s a,m,h=>by
   cases m<;>simp [t,nd] at h
   rw [h.1,zsj h.2]
 | .seq a b,m,h=>by
   cases m<;>simp [t,nd] at h
   rw [zsj h.1,zsj h.2]
 | .alt a b,m,h=>by
   cases m<;>simp [t,nd] at h
   rw [zsj h.1,zsj h.2]
 | .par a b,m,h=>by
   cases m<;>simp [t,nd] at h
   rw [zsj h.1,zsj h.2]
 | .hand a b,m,h=>by
   cases m<;>simp [t,nd] at h
   rw [zsj h.1,zsj h.2]
 | .pair a b,m,h=>by
   cases m<;>simp [t,nd] at h
   rw [zsj h.1,zsj h.2]
 | .going a b,m,h=>by
   cases m<;>simp [t,nd] at h
   rw [zsj h.1,zsj h.2]
 | .stack a b,m,h=>by
   cases m<;>simp [t,nd] at h
   rw [zsj h.1,zsj h.2]
theorem qao {a b:Tm} (h:a.row=b.row):a=b:=zsj (Go.Rd.qao a.t_ok b.t_ok h)
theorem zab (m:Tm):m.row.length=m.size:=T.zab _
theorem zhu (m:Tm):0<m.size:=T.zhu _
theorem qkq (m:Tm):m.row≠[]:=T.qkq _
@[simp] theorem row_act (s:ByteArray):(act s).row=[(1,s,0)]:=rfl
@[simp] theorem row_skip:skip.row=[nd 2]:=rfl
@[simp] theorem row_throw:throw.row=[nd 3]:=rfl
@[simp] theorem row_yield:yield.row=[nd 4]:=rfl
@[simp] theorem row_over (s:Int):(over s).row=[(11,ByteArray.empty,s)]:=rfl
theorem quj (a b:Tm):(seq a b).row=nd 5::(a.row++b.row):=rfl
theorem yrn (a b:Tm):(alt a b).row=nd 6::(a.row++b.row):=rfl
theorem qno (a b:Tm):(par a b).row=nd 7::(a.row++b.row):=rfl
theorem qnp (a b:Tm):(hand a b).row=nd 8::(a.row++b.row):=rfl
theorem zta (a:Tm):(block a).row=nd 9::a.row:=rfl
theorem ykt (a b:Tm):(pair a b).row=nd 10::(a.row++b.row):=rfl
theorem qgd (a b:Tm):(going a b).row=nd 12::(a.row++b.row):=rfl
theorem qfz (a b:Tm):(stack a b).row=nd 13::(a.row++b.row):=rfl
theorem qnq (s:Int) (a:Tm):(fin s a).row=(14,ByteArray.empty,s)::a.row:=rfl
theorem ydd:skip.size=1:=rfl
theorem zyc (s:Int):(over s).size=1:=rfl
theorem zaw (a b:Tm):(seq a b).size=a.size+b.size+1:=rfl
theorem zyd (a b:Tm):(alt a b).size=a.size+b.size+1:=rfl
theorem zbq (a b:Tm):(par a b).size=a.size+b.size+1:=rfl
theorem zba (a b:Tm):(hand a b).size=a.size+b.size+1:=rfl
theorem zam (a:Tm):(block a).size=a.size+1:=rfl
theorem qfp (a b:Tm):(pair a b).size=a.size+b.size+1:=rfl
theorem zce (a b:Tm):(going a b).size=a.size+b.size+1:=rfl
theorem zdh (a b:Tm):(stack a b).size=a.size+b.size+1:=rfl
theorem zcl (s:Int) (a:Tm):(fin s a).size=a.size+1:=rfl
def good (p:ByteArray→Prop) (q:Int→Prop):Tm→Prop
 |act s=>p s
 |skip|throw|yield=>True
 |over s=>q s
 |seq a b|alt a b|par a b|hand a b|pair a b|going a b|stack a b=>a.good p q∧b.good p q
 |block a=>a.good p q
 |fin s a=>q s∧a.good p q
end Tm
def lowB (b:UInt8):Bool:=decide (97≤b.toNat)&&decide (b.toNat≤122)
def ynw:List ByteArray:=[⟨#[115,107,105,112]⟩,⟨#[116,104,114,111,119]⟩,⟨#[121,105,101,108,100]⟩,⟨#[115,107,105,112,112]⟩,⟨#[116,104,114,111,119,119]⟩,⟨#[121,105,101,108,100,100]⟩]
def qjn (s:ByteArray):Bool:=decide (1≤s.size)&&(decide (s.size≤8)&&(s.data.toList.all lowB&& !decide (s∈ynw)))
def right (n:Nd):Bool :=
 if n.1=1 then qjn n.2.1&&decide (n.2.2=0)
 else if n.1=11∨n.1=14 then decide (n.2.1=ByteArray.empty)&&zlw n.2.2
 else (ar n.1).isSome&&(decide (n.2.1=ByteArray.empty)&&decide (n.2.2=0))
def one (l:List Nd):Bool:=match P l with|some (_,[])=>true|_=>false
theorem ysj {t:T} (h:t.ok):one t.row=true:=by unfold one;rw [qin h]
def whole (l:List Nd):Bool:=l.all right&&(decide (l.length≤200)&&one l)
abbrev Tm.fine (m:Tm):Prop:=m.good (fun s=>qjn s=true) (fun s=>zlw s=true)
theorem ar0 {k:Int} (h:ar k=some 0):k=1∨k=2∨k=3∨k=4∨k=11:=by
 unfold ar at h
 by_cases h1:k=1∨k=2∨k=3∨k=4∨k=11
 ·exact h1
 ·rw [if_neg h1] at h
  split at h
  ·cases h
  ·split at h<;>cases h
theorem ar1 {k:Int} (h:ar k=some 1):k=9∨k=14:=by
 unfold ar at h
 split at h
 ·cases h
 ·by_cases h1:k=9∨k=14
  ·exact h1
  ·rw [if_neg h1] at h
   split at h<;>cases h
theorem ar2 {k:Int} (h:ar k=some 2):k=5∨k=6∨k=7∨k=8∨k=10∨k=12∨k=13:=by
 unfold ar at h
 split at h
 ·cases h
 ·split at h
  ·cases h
  ·split at h
   ·assumption
   ·cases h
theorem qmo:∀{t:T},t.ok→(∀n∈t.row,right n=true)→∃m:Tm,m.t=t∧m.fine
 | .n0 n,h,hr=>by
   have hn:=hr n (by simp [T.row])
   obtain ⟨k,s,z⟩:=n
   rcases ar0 h with rfl|rfl|rfl|rfl|rfl
   ·simp only [right,if_true,Bool.and_eq_true,decide_eq_true_eq] at hn
    obtain ⟨h1,rfl⟩:=hn
    exact ⟨.act s,rfl,h1⟩
   ·simp [right,ar] at hn
    obtain ⟨rfl,rfl⟩:=hn
    exact ⟨.skip,rfl,trivial⟩
   ·simp [right,ar] at hn
    obtain ⟨rfl,rfl⟩:=hn
    exact ⟨.throw,rfl,trivial⟩
   ·simp [right,ar] at hn
    obtain ⟨rfl,rfl⟩:=hn
    exact ⟨.yield,rfl,trivial⟩
   ·simp [right,ar] at hn
    obtain ⟨rfl,h1⟩:=hn
    exact ⟨.over z,rfl,h1⟩
 | .n1 n a,h,hr=>by
   have hn:=hr n (by simp [T.row])
   obtain ⟨m,rfl,hm⟩:=qmo (t:=a) h.2 fun x hx=>hr x (by simp [T.row,hx])
   obtain ⟨k,s,z⟩:=n
   rcases ar1 h.1 with rfl|rfl
   ·simp [right,ar] at hn
    obtain ⟨rfl,rfl⟩:=hn
    exact ⟨.block m,rfl,hm⟩
   ·simp [right,ar] at hn
    obtain ⟨rfl,h1⟩:=hn
    exact ⟨.fin z m,rfl,h1,hm⟩
 | .n2 n a b,h,hr=>by
   have hn:=hr n (by simp [T.row])
   obtain ⟨m,rfl,hm⟩:=qmo (t:=a) h.2.1 fun x hx=>hr x (by simp [T.row,hx])
   obtain ⟨m',rfl,hm'⟩:=qmo (t:=b) h.2.2 fun x hx=>hr x (by simp [T.row,hx])
   obtain ⟨k,s,z⟩:=n
   rcases ar2 h.1 with rfl|rfl|rfl|rfl|rfl|rfl|rfl<;>(simp [right,ar] at hn;obtain ⟨rfl,rfl⟩:=hn)
   ·exact ⟨.seq m m',rfl,hm,hm'⟩
   ·exact ⟨.alt m m',rfl,hm,hm'⟩
   ·exact ⟨.par m m',rfl,hm,hm'⟩
   ·exact ⟨.hand m m',rfl,hm,hm'⟩
   ·exact ⟨.pair m m',rfl,hm,hm'⟩
   ·exact ⟨.going m m',rfl,hm,hm'⟩
   ·exact ⟨.stack m m',rfl,hm,hm'⟩
theorem zjc:∀{m:Tm},m.fine→∀n∈m.row,right n=true:=by
 intro m
 induction m with
 |act s=>intro h n hn;rw [Tm.row_act,List.mem_singleton] at hn;subst hn;simp [right];exact h
 |skip=>intro h n hn;rw [Tm.row_skip,List.mem_singleton] at hn;subst hn;simp [right,ar]
 |throw=>intro h n hn;rw [Tm.row_throw,List.mem_singleton] at hn;subst hn;simp [right,ar]
 |yield=>intro h n hn;rw [Tm.row_yield,List.mem_singleton] at hn;subst hn;simp [right,ar]
 |over s=>intro h n hn;rw [Tm.row_over,List.mem_singleton] at hn;subst hn;simp [right,ar];exact h
 |block a ih =>
  intro h n hn
  rw [Tm.zta] at hn
  rcases List.mem_cons.1 hn with rfl|hn
  ·simp [right,ar]
  ·exact ih h n hn
 |fin s a ih =>
  intro h n hn
  rw [Tm.qnq] at hn
  rcases List.mem_cons.1 hn with rfl|hn
  ·simp [right,ar];exact h.1
  ·exact ih h.2 n hn
 |seq a b iha ihb|alt a b iha ihb|par a b iha ihb|hand a b iha ihb|pair a b iha ihb|going a b iha ihb|stack a b iha ihb =>
  intro h n hn
  rcases List.mem_cons.1 hn with rfl|hn
  ·simp [right,ar]
  ·rcases List.mem_append.1 hn with hn|hn
   ·exact iha h.1 n hn
   ·exact ihb h.2 n hn
theorem zxr {l:List Nd}:whole l=true↔∃m:Tm,l=m.row∧m.fine∧m.size≤200:=by
 constructor
 ·intro h
  simp only [whole,Bool.and_eq_true,decide_eq_true_eq,List.all_eq_true] at h
  obtain ⟨h1,h2,h3⟩:=h
  unfold one at h3
  split at h3
  ·rename_i t hp
   obtain ⟨k1,k2⟩:=zuf hp
   rw [List.append_nil] at k2
   subst k2
   obtain ⟨m,rfl,hm⟩:=qmo k1 h1
   exact ⟨m,rfl,hm,by rw [T.zab] at h2;exact h2⟩
  ·cases h3
 ·rintro ⟨m,rfl,hm,hs⟩
  have hP:one m.row=true:=ysj m.t_ok
  simp only [whole,Bool.and_eq_true,decide_eq_true_eq,List.all_eq_true,hP]
  exact ⟨fun n hn=>zjc hm n hn,by rw [Tm.zab];exact hs,trivial⟩
namespace Tm
mutual
def pl:Tm→Bool
 |act _|skip|throw|yield=>true
 |seq a b|alt a b|par a b|hand a b=>a.pl&&b.pl
 |block a=>a.pa
 |_=>false
def pa:Tm→Bool
 |pair a b=>a.pl&&b.pl
 |seq a b|alt a b|par a b=>a.pa&&b.pa
 |_=>false
end
mutual
def po:Tm→Bool
 |act _|skip|throw|yield|over _=>true
 |seq a b|hand a b=>a.po&&b.pl
 |alt a b=>a.pl&&b.pl
 |par a b=>a.po&&b.po
 |block a=>a.qo
 |_=>false
def qo:Tm→Bool
 |pair a b=>a.pl&&b.pl
 |alt a b=>a.pa&&b.pa
 |going a b=>a.po&&b.pl
 |seq a b=>a.qo&&b.pa
 |par a b=>a.qo&&b.qo
 |stack a b=>a.qo&&b.pl
 |fin _ a=>a.pl
 |_=>false
end
theorem qgk:∀m:Tm,(m.pl=true→m.po=true)∧(m.pa=true→m.qo=true):=by
 intro m
 induction m with
 |act s|skip|throw|yield|over s=>simp [pl,pa,po,qo]
 |block a ih=>simp only [pl,pa,po,qo];exact ⟨ih.2,by simp⟩
 |fin s a ih=>simp [pl,pa,po,qo]
 |pair a b iha ihb|going a b iha ihb|stack a b iha ihb=>simp [pl,pa,po,qo]
 |alt a b iha ihb=>simp [pl,pa,po,qo]
 |hand a b iha ihb=>simp only [pl,pa,po,qo,Bool.and_eq_true];exact ⟨fun h=>⟨iha.1 h.1,h.2⟩,by simp⟩
 |seq a b iha ihb=>simp only [pl,pa,po,qo,Bool.and_eq_true];exact ⟨fun h=>⟨iha.1 h.1,h.2⟩,fun h=>⟨iha.2 h.1,h.2⟩⟩
 |par a b iha ihb=>simp only [pl,pa,po,qo,Bool.and_eq_true];exact ⟨fun h=>⟨iha.1 h.1,ihb.1 h.2⟩,fun h=>⟨iha.2 h.1,ihb.2 h.2⟩⟩
theorem zga {m:Tm} (h:m.pl=true):m.po=true:=(qgk m).1 h
theorem zrn {m:Tm} (h:m.pa=true):m.qo=true:=(qgk m).2 h
theorem ywg:∀m:Tm,m.po=true→m.qo=false:=by
 intro m
 induction m with
 |act s|skip|throw|yield|over s=>simp [po,qo]
 |block a ih=>simp [po,qo]
 |fin s a ih=>simp [po,qo]
 |pair a b iha ihb|going a b iha ihb|stack a b iha ihb=>simp [po,qo]
 |hand a b iha ihb=>simp [po,qo]
 |alt a b iha ihb =>
  simp only [po,qo,Bool.and_eq_true]
  intro h
  have h1:=iha (zga h.1)
  have:a.pa=false:=by
   cases h2:a.pa with
   |false=>rfl
   |true=>rw [zrn h2] at h1;cases h1
  simp [this]
 |seq a b iha ihb=>simp only [po,qo,Bool.and_eq_true];intro h;simp [iha h.1]
 |par a b iha ihb=>simp only [po,qo,Bool.and_eq_true];intro h;simp [iha h.1]
def so (m:Tm):Int:=if m.pl then 1 else if m.pa then 2 else if m.po then 3 else if m.qo then 4 else 0
theorem cls (m:Tm):(m.so=1∧m.pl=true∧m.pa=false∧m.po=true∧m.qo=false)∨(m.so=2∧m.pl=false∧m.pa=true∧m.po=false∧m.qo=true)∨
 (m.so=3∧m.pl=false∧m.pa=false∧m.po=true∧m.qo=false)∨(m.so=4∧m.pl=false∧m.pa=false∧m.po=false∧m.qo=true)∨(m.so=0∧m.pl=false∧m.pa=false∧m.po=false∧m.qo=false):=by
 have h1:= @zga m
 have h2:= @zrn m
 have h3:=ywg m
 unfold so
 cases e1:m.pl<;>cases e2:m.pa<;>cases e3:m.po<;>cases e4:m.qo<;>simp_all
end Tm
def dg (i:Nat):List UInt8:=if i<10 then [UInt8.ofNat (48+i)] else [UInt8.ofNat (48+i/10),UInt8.ofNat (48+i % 10)]
def digB (b:UInt8):Bool:=decide (48≤b)&&decide (b≤57)
theorem qhu:∀i:Nat,i<100→(dg i).all digB=true:=by decide
theorem yqi:∀i:Nat,i<20→∀j:Nat,j<20→dg i=dg j→i=j:=by decide
def keyN (n:Nd):List UInt8:=dg n.1.toNat++(n.2.1.data.toList++(58::(dg n.2.2.toNat++[32])))
def keyL (l:List Nd):List UInt8:=l.flatMap keyN
theorem qmx {α:Type} {x:α}:∀{A A' B B':List α},x∉A→x∉A'→A++x::B=A'++x::B'→A=A'∧B=B'
 |[],[],B,B',_,_,h=>⟨rfl,by simpa using h⟩
 |[],a::A',B,B',_,h2,h=>by
  simp only [List.nil_append,List.cons_append,List.cons.injEq] at h
  exact absurd (by rw [h.1];exact List.mem_cons_self ..) h2
 |a::A,[],B,B',h1,_,h=>by
  simp only [List.nil_append,List.cons_append,List.cons.injEq] at h
  exact absurd (by rw [←h.1];exact List.mem_cons_self ..) h1
 |a::A,a'::A',B,B',h1,h2,h=>by
  simp only [List.cons_append,List.cons.injEq] at h
  obtain ⟨k1,k2⟩:=qmx (fun hm=>h1 (List.mem_cons_of_mem _ hm)) (fun hm=>h2 (List.mem_cons_of_mem _ hm)) h.2
  exact ⟨by rw [h.1,k1],k2⟩
theorem qqh:∀{A A' B B':List UInt8},A.all digB=true→A'.all digB=true→(∀b r,B=b::r→digB b=false)→(∀b r,B'=b::r→digB b=false)→A++B=A'++B'→A=A'∧B=B'
 |[],[],B,B',_,_,_,_,h=>⟨rfl,by simpa using h⟩
 |[],a::A',B,B',_,h2,hb,_,h=>by
  simp only [List.all_cons,Bool.and_eq_true] at h2
  have:=hb a _ (by simpa using h)
  rw [h2.1] at this;cases this
 |a::A,[],B,B',h1,_,_,hb,h=>by
  simp only [List.all_cons,Bool.and_eq_true] at h1
  have:=hb a _ (by simpa using h.symm)
  rw [h1.1] at this;cases this
 |a::A,a'::A',B,B',h1,h2,hb,hb',h=>by
  simp only [List.all_cons,Bool.and_eq_true] at h1 h2
  simp only [List.cons_append,List.cons.injEq] at h
  obtain ⟨k1,k2⟩:=qqh h1.2 h2.2 hb hb' h.2
  exact ⟨by rw [h.1,k1],k2⟩
theorem yfw {b:UInt8} (h:lowB b=true):digB b=false∧b≠58∧b≠32:=by
 unfold lowB at h
 have h1:97≤b.toNat:=by
  simp only [Bool.and_eq_true,decide_eq_true_eq] at h
  exact h.1
 refine ⟨?_,?_,?_⟩
 ·unfold digB
  rw [Bool.and_eq_false_iff]
  right
  refine decide_eq_false fun h2=> ?_
  rw [UInt8.le_iff_toNat_le] at h2
  have:(57:UInt8).toNat=57:=rfl
  omega
 ·rintro rfl
  have:(58:UInt8).toNat=58:=rfl
  omega
 ·rintro rfl
  have:(32:UInt8).toNat=32:=rfl
  omega
theorem ysy {b:UInt8} (h:digB b=true):b≠58∧b≠32:=by
 constructor
 ·rintro rfl;revert h;decide
 ·rintro rfl;revert h;decide
theorem zwr {n:Nd} (h:right n=true):0≤n.1∧n.1<20∧0≤n.2.2∧n.2.2<20∧n.2.1.data.toList.all lowB=true:=by
 unfold right at h
 split at h
 ·rename_i e
  simp only [Bool.and_eq_true,decide_eq_true_eq,qjn] at h
  exact ⟨by omega,by omega,by omega,by omega,h.1.2.2.1⟩
 ·split at h
  ·rename_i e
   simp only [Bool.and_eq_true,decide_eq_true_eq] at h
   have:=zye.1 h.2
   exact ⟨by omega,by omega,by omega,by omega,by rw [h.1];rfl⟩
  ·rename_i e1 e2
   simp only [Bool.and_eq_true,decide_eq_true_eq] at h
   refine ⟨?_,?_,by omega,by omega,by rw [h.2.1];rfl⟩
   ·have h1:=h.1
    unfold ar at h1
    split at h1
    ·omega
    ·split at h1
     ·omega
     ·split at h1
      ·omega
      ·cases h1
   ·have h1:=h.1
    unfold ar at h1
    split at h1
    ·omega
    ·split at h1
     ·omega
     ·split at h1
      ·omega
      ·cases h1
theorem ymx {n n':Nd} {r r':List UInt8} (hn:right n=true) (hn':right n'=true) (h:keyN n++r=keyN n'++r'):n=n'∧r=r':=by
 obtain ⟨a1,a2,a3,a4,a5⟩:=zwr hn
 obtain ⟨b1,b2,b3,b4,b5⟩:=zwr hn'
 unfold keyN at h
 simp only [List.append_assoc,List.cons_append,List.nil_append] at h
 have nb:∀{s:ByteArray} {R:List UInt8},s.data.toList.all lowB=true→∀b q,s.data.toList++(58::R)=b::q→digB b=false:=by
  intro s R hs b q e
  cases hd:s.data.toList with
  |nil=>rw [hd] at e;simp only [List.nil_append,List.cons.injEq] at e;rw [←e.1];decide
  |cons c cs =>
   rw [hd] at e hs
   simp only [List.cons_append,List.cons.injEq] at e
   simp only [List.all_cons,Bool.and_eq_true] at hs
   rw [←e.1]
   exact (yfw hs.1).1
 obtain ⟨e1,h⟩:=qqh (qhu _ (by omega)) (qhu _ (by omega)) (nb a5) (nb b5) h
 have no58:∀{s:ByteArray},s.data.toList.all lowB=true→(58:UInt8)∉s.data.toList:=fun hs hm=>(yfw (List.all_eq_true.1 hs _ hm)).2.1 rfl
 obtain ⟨e2,h⟩:=qmx (no58 a5) (no58 b5) h
 have no32:∀{i:Nat},i<100→(32:UInt8)∉dg i:=fun hi hm=>(ysy (List.all_eq_true.1 (qhu _ hi) _ hm)).2 rfl
 obtain ⟨e3,h⟩:=qmx (no32 (by omega)) (no32 (by omega)) h
 have k1:=yqi _ (by omega) _ (by omega) e1
 have k3:=yqi _ (by omega) _ (by omega) e3
 obtain ⟨x,s,z⟩:=n
 obtain ⟨x',s',z'⟩:=n'
 obtain ⟨d⟩:=s
 obtain ⟨d'⟩:=s'
 have k2:d=d':=Array.toList_inj.1 e2
 simp only at a1 a3 b1 b3 k1 k3
 have:x=x':=by omega
 have:z=z':=by omega
 subst k2
 simp_all
theorem ygg (n:Nd):keyN n≠[]:=by
 unfold keyN
 simp
theorem qyh:∀{l l':List Nd},(∀n∈l,right n=true)→(∀n∈l',right n=true)→keyL l=keyL l'→l=l'
 |[],[],_,_,_=>rfl
 |[],n::l',_,_,h=>by
  simp only [keyL,List.flatMap_nil,List.flatMap_cons] at h
  exact absurd (List.append_eq_nil_iff.1 h.symm).1 (ygg n)
 |n::l,[],_,_,h=>by
  simp only [keyL,List.flatMap_nil,List.flatMap_cons] at h
  exact absurd (List.append_eq_nil_iff.1 h).1 (ygg n)
 |n::l,n'::l',h1,h2,h=>by
  simp only [keyL,List.flatMap_cons] at h
  obtain ⟨e1,e2⟩:=ymx (h1 n (List.mem_cons_self ..)) (h2 n' (List.mem_cons_self ..)) h
  rw [e1,qyh (l:=l) (l':=l') (fun x hx=>h1 x (List.mem_cons_of_mem _ hx)) (fun x hx=>h2 x (List.mem_cons_of_mem _ hx)) e2]
end Go.Rd
