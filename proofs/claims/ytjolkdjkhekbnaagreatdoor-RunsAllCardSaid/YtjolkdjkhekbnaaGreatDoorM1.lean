/- Rows of nodes as trees: plain Lean, no program in sight. -/
import Derived.Test.YtjolkdjkhekbnaaGreatDoorSvTop
set_option linter.unusedVariables false
set_option linter.unusedSimpArgs false
namespace Go.Rd
open Go Go.Sv
instance (priority:=low) decMemD {α:Type} [DecidableEq α] (a:α):(l:List α)→Decidable (a∈l)
 |[]=>isFalse (by simp)
 |x::r=>if h:a=x then isTrue (by rw [h];exact List.mem_cons_self ..) else match decMemD a r with
  |isTrue h'=>isTrue (List.mem_cons_of_mem _ h')
  |isFalse h'=>isFalse (fun hm=>by rcases List.mem_cons.1 hm with h1|h1;exact h h1;exact h' h1)
def ar (k:Int):Option Nat:=
 if k=1∨k=2∨k=3∨k=4∨k=11 then some 0
 else if k=9∨k=14 then some 1
 else if k=5∨k=6∨k=7∨k=8∨k=10∨k=12∨k=13 then some 2 else none
def arI (k:Int):Int:=match ar k with|some n=>(n:Int)|none=> -1
inductive T where
 |n0 (n:Nd)
 |n1 (n:Nd) (a:T)
 |n2 (n:Nd) (a b:T)
 deriving DecidableEq
namespace T
def row:T→List Nd
 |n0 n=>[n]
 |n1 n a=>n::a.row
 |n2 n a b=>n::(a.row++b.row)
def hd:T→Nd
 |n0 n=>n
 |n1 n _=>n
 |n2 n _ _=>n
def kids:T→List T
 |n0 _=>[]
 |n1 _ a=>[a]
 |n2 _ a b=>[a,b]
def size:T→Nat
 |n0 _=>1
 |n1 _ a=>a.size+1
 |n2 _ a b=>a.size+b.size+1
def depth:T→Nat
 |n0 _=>1
 |n1 _ a=>a.depth+1
 |n2 _ a b=>max a.depth b.depth+1
def ok:T→Prop
 |n0 n=>ar n.1=some 0
 |n1 n a=>ar n.1=some 1∧a.ok
 |n2 n a b=>ar n.1=some 2∧a.ok∧b.ok
def all (p:Nd→Prop):T→Prop
 |n0 n=>p n
 |n1 n a=>p n∧a.all p
 |n2 n a b=>p n∧a.all p∧b.all p
theorem zac:∀t:T,t.row.length=t.size
 |n0 n=>rfl
 |n1 n a=>by simp [row,size,zac a]
 |n2 n a b=>by simp [row,size,zac a,zac b]
theorem zda (t:T):0<t.size:=by cases t<;>simp [size]
theorem yzk (t:T):∃r,t.row=t.hd::r:=by cases t<;>exact ⟨_,rfl⟩
theorem qvx (t:T):t.row≠[]:=by cases t<;>simp [row]
theorem qcd:∀t:T,t.depth≤t.size
 |n0 n=>Nat.le_refl _
 |n1 n a=>by simp only [depth,size];have:=qcd a;omega
 |n2 n a b=>by simp only [depth,size];have:=qcd a;have:=qcd b;omega
theorem qsn (t:T):0<t.depth:=by cases t<;>simp [depth]
end T
def parse:Nat→List Nd→Option (T×List Nd)
 |0,_=>none
 |_+1,[]=>none
 |f+1,n::l=>
  match ar n.1 with
  |none=>none
  |some 0=>some (.n0 n,l)
  |some 1=>(match parse f l with
   |some (a,l1)=>some (.n1 n a,l1)
   |none=>none)
  |some _=>(match parse f l with
   |some (a,l1)=>(match parse f l1 with
    |some (b,l2)=>some (.n2 n a b,l2)
    |none=>none)
   |none=>none)
theorem ywr {k:Int} {n:Nat} (h:ar k=some n):n≤2:=by
 unfold ar at h
 repeat' split at h
 all_goals first|(cases h;decide)|cases h
theorem zrk:∀{t:T} {f:Nat} {r:List Nd},t.ok→t.size≤f→parse f (t.row++r)=some (t,r)
 | .n0 n,0,r,h,hf=>by simp [T.size] at hf
 | .n0 n,f+1,r,h,hf=>by have h:ar n.1=some 0:=h;simp [T.row,parse,h]
 | .n1 n a,0,r,h,hf=>by simp [T.size] at hf
 | .n1 n a,f+1,r,h,hf=>by have h1:ar n.1=some 1:=h.1;simp only [T.size] at hf;simp [T.row,parse,h1,zrk (t:=a) (f:=f) (r:=r) h.2 (by omega)]
 | .n2 n a b,0,r,h,hf=>by simp [T.size] at hf
 | .n2 n a b,f+1,r,h,hf=>by have h1:ar n.1=some 2:=h.1;simp only [T.size] at hf;simp only [T.row,List.cons_append,List.append_assoc,parse,h1,zrk (t:=a) (f:=f) (r:=b.row++r) h.2.1 (by omega),zrk (t:=b) (f:=f) (r:=r) h.2.2 (by omega)]
theorem zvq:∀{f:Nat} {l:List Nd} {t:T} {r:List Nd},parse f l=some (t,r)→t.ok∧l=t.row++r
 |0,l,t,r,h=>by simp [parse] at h
 |f+1,[],t,r,h=>by simp [parse] at h
 |f+1,n::l,t,r,h=>by
  simp only [parse] at h;split at h
  ·cases h
  ·cases h;exact ⟨by assumption,rfl⟩
  ·split at h
   ·rename_i h1 _ _ _ h2;cases h;obtain ⟨h3,rfl⟩:=zvq h2;exact ⟨⟨h1,h3⟩,rfl⟩
   ·cases h
  ·rename_i m h0 h0' h1;split at h
   ·rename_i h2;split at h
    ·rename_i h3;cases h;obtain ⟨k1,rfl⟩:=zvq h2;obtain ⟨k2,rfl⟩:=zvq h3;have:m=2:=by have:=ywr h1;rcases m with _|_|_|m<;>first|rfl|(exfalso;simp_all;done)|(exfalso;omega)
     subst this;exact ⟨⟨h1,k1,k2⟩,by simp [T.row]⟩
    ·cases h
   ·cases h
theorem yzh {t u:T} {r s:List Nd} (ht:t.ok) (hu:u.ok) (h:t.row++r=u.row++s):t=u∧r=s:=by have h1:=zrk (f:=t.size+u.size) (r:=r) ht (by omega);have h2:=zrk (f:=t.size+u.size) (r:=s) hu (by omega);rw [h,h2] at h1;cases h1;exact ⟨rfl,rfl⟩
theorem qjm {t u:T} (ht:t.ok) (hu:u.ok) (h:t.row=u.row):t=u:=(yzh (r:=[]) (s:=[]) ht hu (by simpa using h)).1
def P (l:List Nd):Option (T×List Nd):=parse l.length l
theorem qfr {t:T} {r:List Nd} (h:t.ok):P (t.row++r)=some (t,r):=zrk h (by simp [T.zac])
theorem qds {t:T} (h:t.ok):P t.row=some (t,[]):=by simpa using qfr (r:=[]) h
theorem zyl {l:List Nd} {t:T} {r:List Nd} (h:P l=some (t,r)):t.ok∧l=t.row++r:=zvq h
theorem xhv {l:List Nd} {t:T} {r:List Nd}:P l=some (t,r)↔t.ok∧l=t.row++r:=⟨zyl,fun ⟨h,e⟩=>e▸qfr h⟩
theorem xkf:P []=none:=rfl
theorem xfa (n:Nd) (l:List Nd):P (n::l)=match ar n.1 with
 |none=>none
 |some 0=>some (.n0 n,l)
 |some 1=>(match P l with
  |some (a,l1)=>some (.n1 n a,l1)
  |none=>none)
 |some _=>(match P l with
  |some (a,l1)=>(match P l1 with
   |some (b,l2)=>some (.n2 n a b,l2)
   |none=>none)
  |none=>none):=by
 have e:∀(l1:List Nd),l1.length≤l.length→parse l.length l1=P l1:=fun l1 hl=>by
  cases h:P l1 with
  |some q=>obtain ⟨t,r⟩:=q;obtain ⟨h1,rfl⟩:=zyl h;exact zrk h1 (by simp [T.zac] at hl;omega)
  |none=>
   cases h':parse l.length l1 with
   |none=>rfl
   |some q=>obtain ⟨t,r⟩:=q;obtain ⟨h1,rfl⟩:=zvq h';rw [qfr h1] at h;cases h
 show parse (l.length+1) (n::l)=_;simp only [parse];split
 ·rename_i h;simp [h]
 ·rename_i h;simp [h]
 ·rename_i h;simp only [h,e l (Nat.le_refl _)]
 ·rename_i m h0 h1 h;have:m=2:=by have:=ywr h;rcases m with _|_|_|m<;>first|rfl|(exfalso;simp_all;done)|(exfalso;omega)
  subst this;simp only [h,e l (Nat.le_refl _)];cases hp:P l with
  |none=>rfl
  |some q=>obtain ⟨a,l1⟩:=q;simp only;obtain ⟨_,rfl⟩:=zyl hp;rw [e l1 (by simp)]
def tree (l:List Nd):Option T:=match P l with|some (t,[])=>some t|_=>none
theorem zga {l:List Nd} {t:T}:tree l=some t↔t.ok∧l=t.row:=by
 unfold tree;constructor
 ·intro h;split at h
  ·rename_i h1;cases h;have:=zyl h1
   simpa using this
  ·cases h
 ·rintro ⟨h,rfl⟩;rw [qds h]
theorem zpn {t:T} (h:t.ok):tree t.row=some t:=zga.2 ⟨h,rfl⟩
theorem zab {α:Type} [Inhabited α] {xs:List α} {i:Nat} {x:α} {r:List α} (h:xs.drop i=x::r):i<xs.length∧decide ((i:Int)<(xs.length:Int))=true∧zaa (i:Int) xs.length=true∧ix xs (i:Int)=x∧xs.drop (i+1)=r∧xs.length=i+1+r.length:=by
 have hi:i<xs.length:=by
  rcases Nat.lt_or_ge i xs.length with h'|h'
  ·exact h'
  ·rw [List.drop_eq_nil_of_le h'] at h;cases h
 have h3:=(List.drop_eq_getElem_cons hi).symm.trans h;simp only [List.cons.injEq] at h3;have hl:=congrArg List.length h;simp only [List.length_drop,List.length_cons] at hl;exact ⟨hi,decide_eq_true (by omega),zoq hi,(qar hi).trans h3.1,h3.2,by omega⟩
theorem drop_nil {α:Type} {xs:List α} {i:Nat} (h:xs.drop i=[]):xs.length≤i∧decide ((i:Int)<(xs.length:Int))=false:=by have:=List.drop_eq_nil_iff.1 h;exact ⟨this,decide_eq_false (by omega)⟩
theorem zar {n:Nat} (h:n<9223372036854775807):w64 ((n:Int)+1)=((n+1:Nat):Int):=yqt h
theorem yyh {n:Nat} (h:n≤9223372036854775807):w64 (n:Int)=(n:Int):=qfz h
theorem xhc {α:Type} [Inhabited α] (x:α) (l:List α):ix (x::l) 0=x:=rfl
theorem room {n b:Nat} (h:n*b≤140737488355328):zae n b=true:=qqh h
def zkw (s:Int):Bool:=decide (1≤s)&&decide (s≤3)
def bs (a b:Int):Int:=if zkw a&&zkw b then (if a=2∨b=2 then 2 else if b>a then b else a) else 0
theorem ywi (a b:Int):bs a b=bs b a:=by unfold bs;cases zkw a<;>cases zkw b<;>simp;by_cases h1:a=2<;>by_cases h2:b=2<;>simp [h1,h2];by_cases h3:b>a<;>by_cases h4:a>b<;>simp [h3,h4]<;>omega
theorem zqy {s:Int}:zkw s=true↔s=1∨s=2∨s=3:=by simp only [zkw,Bool.and_eq_true,decide_eq_true_eq];omega
theorem xhq {a b:Int} (ha:zkw a=true) (hb:zkw b=true):zkw (bs a b)=true:=by rcases zqy.1 ha with rfl|rfl|rfl<;>rcases zqy.1 hb with rfl|rfl|rfl<;>decide
structure Ord3 {α:Type} (c:α→α→Ordering):Prop where
 eq:∀x y,c x y= .eq↔x=y
 sw:∀x y,c y x=(c x y).swap
 tr:∀x y z,c x y= .lt→c y z= .lt→c x z= .lt
namespace Ord3
variable {α:Type} {c:α→α→Ordering}
theorem rfl' (h:Ord3 c) (x:α):c x x= .eq:=(h.eq x x).2 rfl
theorem gt (h:Ord3 c) {x y:α}:c x y= .gt↔c y x= .lt:=by rw [h.sw x y];cases c x y<;>simp
theorem irr (h:Ord3 c) {x:α}:¬c x x= .lt:=by rw [h.rfl' x];simp
theorem asym (h:Ord3 c) {x y:α} (h1:c x y= .lt):¬c y x= .lt:=fun h2=>h.irr (h.tr _ _ _ h1 h2)
end Ord3
def cmpL {α:Type} (c:α→α→Ordering):List α→List α→Ordering
 |[],[]=>.eq
 |[],_::_=>.lt
 |_::_,[]=>.gt
 |x::xs,y::ys=>(c x y).then (cmpL c xs ys)
def cmpP {α β:Type} (c:α→α→Ordering) (d:β→β→Ordering) (x y:α×β):Ordering:=(c x.1 y.1).then (d x.2 y.2)
theorem yrd {a b:Ordering}:a.then b= .eq↔a= .eq∧b= .eq:=by cases a<;>simp [Ordering.then]
theorem yhj {a b:Ordering}:a.then b= .lt↔a= .lt∨(a= .eq∧b= .lt):=by cases a<;>simp [Ordering.then]
theorem ycq {a b:Ordering}:(a.then b).swap=a.swap.then b.swap:=by cases a<;>rfl
theorem Ord3.pair {α β:Type} {c:α→α→Ordering} {d:β→β→Ordering} (h:Ord3 c) (k:Ord3 d):Ord3 (cmpP c d):=by
 refine ⟨fun x y=> ?_,fun x y=> ?_,fun x y z h1 h2=> ?_⟩
 ·unfold cmpP;rw [yrd,h.eq,k.eq];exact ⟨fun ⟨a,b⟩=>Prod.ext a b,fun e=>by rw [e];exact ⟨rfl,rfl⟩⟩
 ·unfold cmpP;rw [ycq,h.sw,k.sw]
 ·unfold cmpP at*;rw [yhj] at*;rcases h1 with h1|⟨h1,h1'⟩<;>rcases h2 with h2|⟨h2,h2'⟩
  ·exact .inl (h.tr _ _ _ h1 h2)
  ·rw [h.eq] at h2;rw [←h2];exact .inl h1
  ·rw [h.eq] at h1;rw [h1];exact .inl h2
  ·rw [h.eq] at h1 h2;rw [h1,h2];exact .inr ⟨h.rfl' _,k.tr _ _ _ h1' h2'⟩
theorem cmpL_eq {α:Type} {c:α→α→Ordering} (h:Ord3 c):∀x y,cmpL c x y= .eq↔x=y
 |[],[]=>by simp [cmpL]
 |[],_::_=>by simp [cmpL]
 |_::_,[]=>by simp [cmpL]
 |x::xs,y::ys=>by rw [cmpL,yrd,h.eq,cmpL_eq h xs ys];simp
theorem ywc {α:Type} {c:α→α→Ordering} (h:Ord3 c):∀x y,cmpL c y x=(cmpL c x y).swap
 |[],[]=>rfl
 |[],_::_=>rfl
 |_::_,[]=>rfl
 |x::xs,y::ys=>by rw [cmpL,cmpL,ycq,h.sw x y,ywc h xs ys]
theorem ywb {α:Type} {c:α→α→Ordering} (h:Ord3 c):∀x y z,cmpL c x y= .lt→cmpL c y z= .lt→cmpL c x z= .lt
 |[],[],_,h1,_=>by simp [cmpL] at h1
 |[],_::_,[],_,h2=>by simp [cmpL] at h2
 |[],_::_,_::_,_,_=>rfl
 |_::_,[],_,h1,_=>by simp [cmpL] at h1
 |_::_,_::_,[],_,h2=>by simp [cmpL] at h2
 |x::xs,y::ys,z::zs,h1,h2=>by
  rw [cmpL,yhj] at*;rcases h1 with h1|⟨h1,h1'⟩<;>rcases h2 with h2|⟨h2,h2'⟩
  ·exact .inl (h.tr _ _ _ h1 h2)
  ·rw [h.eq] at h2;rw [←h2];exact .inl h1
  ·rw [h.eq] at h1;rw [h1];exact .inl h2
  ·rw [h.eq] at h1 h2;rw [h1,h2];exact .inr ⟨h.rfl' _,ywb h _ _ _ h1' h2'⟩
theorem Ord3.list {α:Type} {c:α→α→Ordering} (h:Ord3 c):Ord3 (cmpL c):=⟨cmpL_eq h,ywc h,ywb h⟩
def cmpI (x y:Int):Ordering:=if x<y then .lt else if x=y then .eq else .gt
theorem ordI:Ord3 cmpI:=by
 refine ⟨fun x y=> ?_,fun x y=> ?_,fun x y z h1 h2=> ?_⟩
 ·unfold cmpI;by_cases h:x<y<;>by_cases h':x=y<;>simp [h,h']<;>omega
 ·unfold cmpI;by_cases h:x<y
  ·rw [if_pos h,if_neg (by omega),if_neg (by omega)];rfl
  ·by_cases h':x=y
   ·rw [if_neg h,if_pos h',if_neg (by omega),if_pos h'.symm];rfl
   ·rw [if_neg h,if_neg h',if_pos (by omega)];rfl
 ·unfold cmpI at*;have a:x<y:=by by_cases h:x<y;exact h;rw [if_neg h] at h1;split at h1<;>cases h1
  have b:y<z:=by by_cases h:y<z;exact h;rw [if_neg h] at h2;split at h2<;>cases h2
  rw [if_pos (by omega)]
theorem xhm {x y:Int}:cmpI x y= .lt↔x<y:=by unfold cmpI;by_cases h:x<y<;>by_cases h':x=y<;>simp [h,h']
def cmpU (x y:UInt8):Ordering:=cmpI x.toNat y.toNat
theorem ordU:Ord3 cmpU:=⟨fun x y=>by unfold cmpU;rw [ordI.eq];exact ⟨fun h=>UInt8.toNat_inj.1 (by omega),fun h=>by rw [h]⟩,fun x y=>ordI.sw _ _,fun x y z=>ordI.tr _ _ _⟩
def cmpB (a b:ByteArray):Ordering:=cmpL cmpU a.toList b.toList
theorem ordB:Ord3 cmpB:=⟨fun x y=>by unfold cmpB;rw [ordU.list.eq];exact ⟨fun h=>toList_inj h,fun h=>by rw [h]⟩,fun x y=>ordU.list.sw _ _,fun x y z=>ordU.list.tr _ _ _⟩
theorem qix:∀a b:List UInt8,Op.bytesLess a b=decide (cmpL cmpU a b= .lt)
 |[],[]=>by simp [Op.bytesLess,cmpL]
 |_::_,[]=>by simp [Op.bytesLess,cmpL]
 |[],_::_=>by simp [Op.bytesLess,cmpL]
 |x::xs,y::ys=>by
  rw [Op.bytesLess,qix xs ys,cmpL];have e1:decide (x<y)=decide (cmpU x y= .lt):=by unfold cmpU;simp only [xhm,UInt8.lt_iff_toNat_lt];congr 1;simp
  have e2:(x==y)=decide (cmpU x y= .eq):=by rw [Bool.eq_iff_iff,beq_iff_eq,decide_eq_true_iff,ordU.eq]
  rw [e1,e2];cases cmpU x y<;>simp [Ordering.then]
theorem qyg (a b:ByteArray):Op.bytesLess a.toList b.toList=decide (cmpB a b= .lt):=qix _ _
abbrev cmpA:List ByteArray→List ByteArray→Ordering:=cmpL cmpB
theorem ordA:Ord3 cmpA:=ordB.list
abbrev cmpT:Tc→Tc→Ordering:=cmpP cmpA cmpI
theorem ordT:Ord3 cmpT:=ordA.pair ordI
abbrev cmpQ:Tc×Tc→Tc×Tc→Ordering:=cmpP cmpT cmpT
theorem ordQ:Ord3 cmpQ:=ordT.pair ordT
def ordN:Ordering→Int
 | .lt=> -1
 | .eq=>0
 | .gt=>1
theorem ytu {o:Ordering}:ordN o<0↔o= .lt:=by cases o<;>simp [ordN]
section
variable {α:Type} {c:α→α→Ordering}
def Srt (c:α→α→Ordering) (l:List α):Prop:=l.Pairwise fun x y=>c x y= .lt
theorem Srt.nil:Srt c []:=List.Pairwise.nil
theorem zjk {x:α} {l:List α}:Srt c (x::l)↔(∀y∈l,c x y= .lt)∧Srt c l:=List.pairwise_cons
theorem zyy (h:Ord3 c):∀{l m:List α},Srt c l→Srt c m→(∀x,x∈l↔x∈m)→l=m
 |[],[],_,_,_=>rfl
 |[],y::m,_,_,hx=>by have:=(hx y).2 (List.mem_cons_self ..);cases this
 |x::l,[],_,_,hx=>by have:=(hx x).1 (List.mem_cons_self ..);cases this
 |x::l,y::m,hl,hm,hx=>by
  obtain ⟨hl1,hl2⟩:=zjk.1 hl;obtain ⟨hm1,hm2⟩:=zjk.1 hm;have e:x=y:=by
   rcases List.mem_cons.1 ((hx x).1 (List.mem_cons_self ..)) with e|h1
   ·exact e
   ·rcases List.mem_cons.1 ((hx y).2 (List.mem_cons_self ..)) with e|h2
    ·exact e.symm
    ·exact absurd (hl1 y h2) (h.asym (hm1 x h1))
  subst e;rw [zyy h hl2 hm2 fun z=>⟨fun hz=> ?_,fun hz=> ?_⟩]
  ·rcases List.mem_cons.1 ((hx z).1 (List.mem_cons_of_mem _ hz)) with e|h1
   ·rw [e] at hz;exact absurd (hl1 x hz) h.irr
   ·exact h1
  ·rcases List.mem_cons.1 ((hx z).2 (List.mem_cons_of_mem _ hz)) with e|h1
   ·rw [e] at hz;exact absurd (hm1 x hz) h.irr
   ·exact h1
def ins (c:α→α→Ordering) (x:α):List α→List α
 |[]=>[x]
 |y::r=>match c x y with
  | .lt=>x::y::r
  | .eq=>y::r
  | .gt=>y::ins c x r
def canon (c:α→α→Ordering) (l:List α):List α:=l.foldr (ins c) []
theorem yji (h:Ord3 c) {x z:α}:∀{l:List α},z∈ins c x l↔z=x∨z∈l
 |[]=>by simp [ins]
 |y::r=>by
  unfold ins;split
  ·simp
  ·rename_i he;rw [h.eq] at he;subst he;simp
  ·rw [List.mem_cons,yji h,List.mem_cons];constructor
   ·rintro (h|h|h)<;>simp [h]
   ·rintro (h|h|h)<;>simp [h]
theorem yrl (h:Ord3 c) {x:α}:∀{l:List α},Srt c l→Srt c (ins c x l)
 |[],_=>zjk.2 ⟨by simp,.nil⟩
 |y::r,hl=>by
  obtain ⟨h1,h2⟩:=zjk.1 hl;unfold ins;split
  ·rename_i he;exact zjk.2 ⟨fun z hz=>by
    rcases List.mem_cons.1 hz with rfl|hz
    ·exact he
    ·exact h.tr _ _ _ he (h1 z hz),hl⟩
  ·exact hl
  ·rename_i he;refine zjk.2 ⟨fun z hz=> ?_,yrl h h2⟩;rcases (yji h).1 hz with rfl|hz
   ·exact h.gt.1 he
   ·exact h1 z hz
theorem zfj (h:Ord3 c):∀(l:List α),Srt c (canon c l)
 |[]=>.nil
 |x::l=>yrl h (zfj h l)
theorem zaz (h:Ord3 c) {z:α}:∀{l:List α},z∈canon c l↔z∈l
 |[]=>by simp [canon]
 |x::l=>by show z∈ins c x (canon c l)↔_;rw [yji h,zaz h,List.mem_cons]
theorem qsu (h:Ord3 c) {l m:List α} (hx:∀x,x∈l↔x∈m):canon c l=canon c m:=
 zyy h (zfj h l) (zfj h m) fun x=>by rw [zaz h,zaz h,hx]
theorem qst (h:Ord3 c) {l m:List α} (hm:Srt c m) (hx:∀x,x∈m↔x∈l):m=canon c l:=
 zyy h hm (zfj h l) fun x=>by rw [zaz h,hx]
theorem ygs (h:Ord3 c) {l:List α} (hl:Srt c l):canon c l=l:=(qst h hl fun _=>Iff.rfl).symm
theorem qhz (x:α):∀(l:List α),(ins c x l).length≤l.length+1
 |[]=>by simp [ins]
 |y::r=>by
  unfold ins;split
  ·simp
  ·simp
  ·have:=qhz x r;simp;omega
theorem zai:∀(l:List α),(canon c l).length≤l.length
 |[]=>Nat.le_refl _
 |x::l=>by have h1:=qhz (c:=c) x (canon c l);have h2:=zai l;show (ins c x (canon c l)).length≤_;simp only [List.length_cons];omega
theorem qit (h:Ord3 c) {ef:α→α→Bool} (hef:∀x y,ef x y=decide (c x y= .eq)):∀(p:α) (l:List α),(∀y∈l,¬c y p= .lt)→l.Pairwise (fun x y=>¬c y x= .lt)→
 Srt c (zby ef p l)∧(∀y∈zby ef p l,c p y= .lt)∧(∀z,z=p∨z∈zby ef p l↔z=p∨z∈l)
 |p,[],_,_=>⟨.nil,by simp [zby],by simp [zby]⟩
 |p,y::r,h1,h2=>by
  obtain ⟨h3,h4⟩:=List.pairwise_cons.1 h2;obtain ⟨i1,i2,i3⟩:=qit h hef y r h3 h4;unfold zby;rw [hef];by_cases e:c y p= .eq
  ·rw [decide_eq_true e,cond_true];rw [h.eq] at e;subst e;exact ⟨i1,i2,fun z=>by rw [i3];simp⟩
  ·rw [decide_eq_false e,cond_false];have hlt:c p y= .lt:=by
    have h5:=h1 y (List.mem_cons_self ..);rw [←h.gt];cases hc:c y p with
    |lt=>exact absurd hc h5
    |eq=>exact absurd hc e
    |gt=>rfl
   refine ⟨zjk.2 ⟨i2,i1⟩,fun z hz=> ?_,fun z=> ?_⟩
   ·rcases List.mem_cons.1 hz with rfl|hz
    ·exact hlt
    ·exact h.tr _ _ _ hlt (i2 z hz)
   ·simp only [List.mem_cons];constructor
    ·rintro (hz|hz|hz)
     ·exact .inl hz
     ·exact .inr (.inl hz)
     ·rcases (i3 z).1 (.inr hz) with hz|hz
      ·exact .inr (.inl hz)
      ·exact .inr (.inr hz)
    ·rintro (hz|hz|hz)
     ·exact .inl hz
     ·exact .inr (.inl hz)
     ·rcases (i3 z).2 (.inr hz) with hz|hz
      ·exact .inr (.inl hz)
      ·exact .inr (.inr hz)
theorem qvi (h:Ord3 c) {ef:α→α→Bool} (hef:∀x y,ef x y=decide (c x y= .eq)) {l m:List α} (hl:l.Pairwise (fun x y=>¬c y x= .lt)) (hm:∀x,x∈l↔x∈m):zaf ef l=canon c m:=by
 cases l with
 |nil=>exact qst h .nil hm
 |cons x r=>
  obtain ⟨h3,h4⟩:=List.pairwise_cons.1 hl;obtain ⟨i1,i2,i3⟩:=qit h hef x r h3 h4;refine qst h (zjk.2 ⟨i2,i1⟩) fun z=> ?_
  show z∈x::zby ef x r↔z∈m;rw [List.mem_cons,i3,←List.mem_cons,hm]
end
theorem qnx:∀(u:Ty) (x:u.den),eqT u x x=true
 | .bool,x=>by simp [eqT]
 | .int _,x=>by simp [eqT]
 | .str,x=>by simp [eqT]
 | .fn,x=>Nat.beq_refl x
 | .slice _ t,xs=>by
   simp only [eqT,Nat.beq_refl,Bool.true_and,List.all_eq_true];intro p hp;have:∀(l:List t.den),∀p∈l.zip l,p.1=p.2:=fun l=>by
    induction l with
    |nil=>simp
    |cons y l ih=>
     intro p hp;rcases List.mem_cons.1 hp with rfl|hp
     ·rfl
     ·exact ih p hp
   have e:=this xs p hp;rw [←e];exact qnx t p.1
 | .pair a b,x=>by simp only [eqT,qnx a,qnx b,Bool.and_self]
theorem yor {u:Ty} {c:u.den→u.den→Ordering} (h:Ord3 c) (xs:List u.den):yff u (fun x y=>some (ordN (c x y))) xs=true:=by
 have hl:∀x y,ltO (fun x y=>some (ordN (c x y))) x y=decide (c x y= .lt):=fun x y=>by unfold ltO;exact decide_eq_decide.2 ytu
 unfold yff;rw [List.all_eq_true];intro x hx;rw [hl,decide_eq_false h.irr,Bool.not_false,Bool.true_and,List.all_eq_true];intro y hy;rw [Option.isSome_some,Bool.true_and,hl,hl,Bool.and_eq_true];refine ⟨?_,?_⟩
 ·cases hc:c x y with
  |lt=>simp
  |eq=>rw [h.eq] at hc;subst hc;simp [qnx]
  |gt=>rw [h.gt] at hc;simp [hc]
 ·rw [List.all_eq_true];intro z hz;rw [hl,hl,Bool.and_eq_true];constructor
  ·by_cases h1:c x y= .lt
   ·by_cases h2:c y z= .lt
    ·simp [h1,h2,h.tr _ _ _ h1 h2]
    ·simp [h2]
   ·simp [h1]
  ·by_cases h3:c x z= .lt
   ·cases h1:c x y with
    |lt=>simp
    |eq=>rw [h.eq] at h1;subst h1;simp [h3]
    |gt=>rw [h.gt] at h1;simp [h.tr _ _ _ h1 h3]
   ·simp [h3]
theorem qkw {u:Ty} {c:u.den→u.den→Ordering} (h:Ord3 c) {cf:u.den→u.den→Option Int} {eq:u.den→u.den→Option Bool} {xs:List u.den} (hlen:xs.length≤4611686018427387903)
 (hcf:∀x∈xs,∀y∈xs,cf x y=some (ordN (c x y))) (heq:∀x∈xs,∀y∈xs,eq x y=some (decide (c x y= .eq))):(zlv u cf xs).bind (zct eq)=some (canon c xs):=by
 rw [zza hcf];unfold zlv;rw [decide_eq_true hlen,yor h,Bool.and_self,cond_true,Option.bind_some];have hmem:∀x,x∈xs.mergeSort (fun x y=> !ltO (fun x y=>some (ordN (c x y))) y x)↔x∈xs:=fun x=>List.mem_mergeSort
 rw [qbh (eq':=fun x y=>some (decide (c x y= .eq))) fun x hx y hy=>heq x ((hmem x).1 hx) y ((hmem y).1 hy)];unfold zct;have hall:∀l:List u.den,(l.all fun x=>l.all fun y=>((some (decide (c x y= .eq)):Option Bool)).isSome)=true:=fun l=>by rw [List.all_eq_true];intro x _;rw [List.all_eq_true];intro y _;rfl
 rw [hall,cond_true];show some (zaf (fun x y=>decide (c x y= .eq)) _)=_;rw [qvi (m:=xs) h (fun x y=>rfl) ?_ hmem];have hle:∀x y,(!ltO (fun x y=>some (ordN (c x y))) y x)=true↔¬c y x= .lt:=fun x y=>by unfold ltO;simp [ytu]
 refine List.Pairwise.imp (fun {a b} h1=>(hle a b).1 h1) (List.pairwise_mergeSort (fun a b d h1 h2=> ?_) (fun a b=> ?_) xs)
 ·rw [hle] at*;intro h3;cases hab:c b a with
  |lt=>exact h1 hab
  |eq=>rw [h.eq] at hab;rw [hab] at h2;exact h2 h3
  |gt=>rw [h.gt] at hab;exact h2 (h.tr _ _ _ h3 hab)
 ·rw [Bool.or_eq_true,hle,hle];by_cases h3:c b a= .lt
  ·exact .inr (h.asym h3)
  ·exact .inl h3
end Go.Rd
namespace Go.Proofs.YtjolkdjkhekbnaaGreatDoor.Sv
open Go Go.Sv Go.Rd
theorem xjg [Dfr] (t u:Nd):((t.1==u.1)&&((t.2.1.toList==u.2.1.toList)&&(t.2.2==u.2.2)))=decide (t=u):=by have h:=xkb t.2.1 u.2.1;unfold bq at h;rw [h];obtain ⟨a,b,c⟩:=t;obtain ⟨a',b',c'⟩:=u;simp only [Prod.mk.injEq];by_cases h1:a=a'<;>by_cases h2:b=b'<;>by_cases h3:c=c'<;>simp [h1,h2,h3]
theorem xgy [Dfr] (t u:Mv):((t.1==u.1)&&(t.2==u.2))=decide (t=u):=by obtain ⟨a,b⟩:=t;obtain ⟨a',b'⟩:=u;simp only [Prod.mk.injEq];by_cases h1:a=a'<;>by_cases h2:b=b'<;>simp [h1,h2]
theorem str_eq [Dfr] (t u:ByteArray):(t.toList==u.toList)=decide (t=u):=xkb t u
theorem int_eq [Dfr] (t u:Int):(t==u)=decide (t=u):=by by_cases h:t=u<;>simp [h]
def zhk {α:Type}:List (List α)→Nat
 |[]=>0
 |x::r=>x.length+zhk r
theorem zth [Dfr] {α:Type}:∀(l:List (List α)),zhk l=l.flatten.length
 |[]=>rfl
 |x::r=>by simp [zhk,zth r]
theorem zlk [Dfr] (xs:List Nd) (h:xs.length≤1000000000):zdl xs=some xs:=by rw [ztp];unfold zcy;rw [room (show xs.length*32≤140737488355328 by omega)];rfl
theorem zwm [Dfr] (n:Nat) (hn:n≤1000000000):zik () (n:Int)=some []:=by
 rw [zut];have hw:w64 ((n:Int)-0)=(n:Int):=by rw [Int.sub_zero];exact yyh (by omega)
 have h1:decide ((n:Int)<0)=false:=decide_eq_false (by omega);have hr:zae n 32=true:=room (by omega);have h3:decide (0≤(n:Int))=true:=decide_eq_true (by omega);simp only [hw,h1,cond_false,Int.toNat_natCast,hr,h3,Bool.and_self,cond_true];by_cases h0:n=0
 ·subst h0;rfl
 ·have h2:decide ((n:Int)>0)=true:=decide_eq_true (by omega);have hc:zaw 0 0 n=true:=by unfold zaw;simp
  simp [h2,hc,cut]
theorem ziq [Dfr] (xs:List (List Nd)) (hx:zhk xs≤1000000000) (hn:xs.length≤1000000000):∀(r:List (List Nd)) (i acc:Nat),xs.drop i=r→acc+zhk r≤1000000000→zdk xs (acc:Int) xs (xs.length:Int) (i:Int)=some (0,(xs,((acc+zhk r:Nat):Int)))
 |[],i,acc,h,ha=>by obtain ⟨h1,h2⟩:=drop_nil h;rw [zhn];simp only [h2,cond_false,zhk,Nat.add_zero]
 |x::r,i,acc,h,ha=>by
  obtain ⟨h1,h2,h3,h4,h5,h6⟩:=zab h;simp only [zhk] at ha;have hw:w64 ((acc:Int)+(x.length:Int))=((acc+x.length:Nat):Int):=by rw [show (acc:Int)+(x.length:Int)=((acc+x.length:Nat):Int) by omega];exact yyh (by omega)
  have h7:decide (((acc+x.length:Nat):Int)<0)=false:=decide_eq_false (by omega);rw [zhn];simp only [h2,h3,h4,hw,h7,cond_true,cond_false,zar (show i<9223372036854775807 by omega),ziq xs hx hn r (i+1) (acc+x.length) h5 (by omega),zhk,Nat.add_assoc]
theorem zio [Dfr] (xs:List (List Nd)) (hn:xs.length≤1000000000):∀(r:List (List Nd)) (i:Nat) (acc:List Nd),xs.drop i=r→acc.length+zhk r≤1000000000→zdj acc xs (xs.length:Int) (i:Int)=some (0,acc++r.flatten)
 |[],i,acc,h,ha=>by obtain ⟨h1,h2⟩:=drop_nil h;rw [zhm];simp only [h2,cond_false,List.flatten_nil,List.append_nil]
 |x::r,i,acc,h,ha=>by obtain ⟨h1,h2,h3,h4,h5,h6⟩:=zab h;simp only [zhk] at ha;rw [zhm];simp only [h2,h3,h4,room (show (acc.length+x.length)*32≤140737488355328 by omega),cond_true,zar (show i<9223372036854775807 by omega),zio xs hn r (i+1) (acc++x) h5 (by rw [List.length_append];omega),List.flatten_cons,List.append_assoc]
theorem ztn [Dfr] (xs:List (List Nd)) (hx:zhk xs≤1000000000) (hn:xs.length≤1000000000):zgz xs=some xs.flatten:=by rw [zrz];have h0:=ziq xs hx hn xs 0 0 rfl (by omega);have h2:=zio xs hn xs 0 [] rfl (by simpa using hx);simp only [Int.natCast_zero,Nat.zero_add] at h0 h2;simp only [h0,Option.bind_some,zwm _ hx,h2,List.nil_append]
theorem zjx [Dfr] (xs ys:List Nd) (hx:xs.length≤4611686018427387904) (hl:xs.length=ys.length) (b:Bool):∀(r:List Nd) (i:Nat),xs.drop i=r→zdr xs ys b (xs.length:Int) (i:Int)=some (if r=ys.drop i then (0,b) else (1,false))
 |[],i,h=>by rw [zhz];obtain ⟨h1,h2⟩:=drop_nil h;simp only [h2,cond_false,List.drop_eq_nil_of_le (show ys.length≤i by omega),if_true]
 |x::r,i,h=>by
  rw [zhz];obtain ⟨h1,h2,h3,h4,h5,h6⟩:=zab h;cases hy:ys.drop i with
  |nil=>have:=List.drop_eq_nil_iff.1 hy;omega
  |cons y s=>
   obtain ⟨k1,k2,k3,k4,k5,k6⟩:=zab hy;simp only [h2,h3,h4,k3,k4,cond_true,xjg,zar (show i<9223372036854775807 by omega),zjx xs ys hx hl b r (i+1) h5,k5];by_cases e:x=y
   ·simp [e]
   ·simp [e]
theorem zuv [Dfr] (xs ys:List Nd) (hx:xs.length≤4611686018427387904):zhx xs ys=some (decide (xs=ys)):=by
 rw [ztl];by_cases hl:xs.length=ys.length
 ·have h1:((xs.length:Int) != (ys.length:Int))=false:=by simp [hl]
  have:=zjx xs ys hx hl false xs 0 rfl;simp only [Int.natCast_zero,List.drop_zero] at this;simp only [h1,cond_false,this,Option.bind_some];by_cases e:xs=ys<;>simp [e,Nat.beq]
 ·have h1:((xs.length:Int) != (ys.length:Int))=true:=by simp;omega
  have h2:xs≠ys:=fun e=>hl (by rw [e])
  simp [h1,h2]
theorem zgp [Dfr] (xs:List Nd) (f:FnV) (p:Nd→Bool) (b:Int) (hx:xs.length≤4611686018427387904) (hp:∀x∈xs,dyn E f [.agg [.int .i64 x.1,.str x.2.1,.int .i64 x.2.2]] .bool=some (p x)):∀(r:List Nd) (i:Nat),xs.drop i=r→∃n:Int×Int,zcm xs f b (xs.length:Int) (i:Int)=some (if r.any p then (1,n.1) else (0,b))∧0≤n.1
 |[],i,h=>by obtain ⟨h1,h2⟩:=drop_nil h;refine ⟨(0,0),?_,Int.le_refl _⟩;rw [zdf];simp only [h2,cond_false];simp
 |x::r,i,h=>by
  obtain ⟨h1,h2,h3,h4,h5,h6⟩:=zab h;obtain ⟨n,hn,hn0⟩:=zgp xs f p b hx hp r (i+1) h5;have hxm:x∈xs:=by
   have:x∈xs.drop i:=by rw [h];exact List.mem_cons_self ..
   exact List.mem_of_mem_drop this
  have hpx:=hp x hxm;cases e:p x with
  |true=>refine ⟨((i:Int),0),?_,by simp⟩;rw [zdf];simp only [h2,h3,h4,hpx,e,cond_true,Option.bind_some,List.any_cons,Bool.true_or,if_true]
  |false=>refine ⟨n,?_,hn0⟩;rw [zdf];simp only [h2,h3,h4,hpx,e,cond_true,cond_false,Option.bind_some,List.any_cons,Bool.false_or,zar (show i<9223372036854775807 by omega),hn]
theorem zmz [Dfr] (xs:List Nd) (f:FnV) (p:Nd→Bool) (hx:xs.length≤4611686018427387904) (hp:∀x∈xs,dyn E f [.agg [.int .i64 x.1,.str x.2.1,.int .i64 x.2.2]] .bool=some (p x)):zel xs f=some (xs.any p):=by
 obtain ⟨n,hn,hn0⟩:=zgp xs f p 0 hx hp xs 0 rfl;rw [Int.natCast_zero] at hn;rw [zmr,zow];simp only [hn,Option.bind_some];cases e:xs.any p with
 |true=>simp [Nat.beq,hn0]
 |false=>simp [Nat.beq]
theorem zmv [Dfr] (xs:List ByteArray) (h:xs.length≤1000000000):zgd xs=some xs:=by rw [zwq];unfold zbn;rw [room (show xs.length*16≤140737488355328 by omega)];rfl
theorem zzb [Dfr] (n:Nat) (hn:n≤1000000000):zku () (n:Int)=some []:=by
 rw [zyo];have hw:w64 ((n:Int)-0)=(n:Int):=by rw [Int.sub_zero];exact yyh (by omega)
 have h1:decide ((n:Int)<0)=false:=decide_eq_false (by omega);have hr:zae n 16=true:=room (by omega);have h3:decide (0≤(n:Int))=true:=decide_eq_true (by omega);simp only [hw,h1,cond_false,Int.toNat_natCast,hr,h3,Bool.and_self,cond_true];by_cases h0:n=0
 ·subst h0;rfl
 ·have h2:decide ((n:Int)>0)=true:=decide_eq_true (by omega);have hc:zaw 0 0 n=true:=by unfold zaw;simp
  simp [h2,hc,cut]
theorem zke [Dfr] (xs:List (List ByteArray)) (hx:zhk xs≤1000000000) (hn:xs.length≤1000000000):∀(r:List (List ByteArray)) (i acc:Nat),xs.drop i=r→acc+zhk r≤1000000000→zeg xs (acc:Int) xs (xs.length:Int) (i:Int)=some (0,(xs,((acc+zhk r:Nat):Int)))
 |[],i,acc,h,ha=>by obtain ⟨h1,h2⟩:=drop_nil h;rw [zim];simp only [h2,cond_false,zhk,Nat.add_zero]
 |x::r,i,acc,h,ha=>by
  obtain ⟨h1,h2,h3,h4,h5,h6⟩:=zab h;simp only [zhk] at ha;have hw:w64 ((acc:Int)+(x.length:Int))=((acc+x.length:Nat):Int):=by rw [show (acc:Int)+(x.length:Int)=((acc+x.length:Nat):Int) by omega];exact yyh (by omega)
  have h7:decide (((acc+x.length:Nat):Int)<0)=false:=decide_eq_false (by omega);rw [zim];simp only [h2,h3,h4,hw,h7,cond_true,cond_false,zar (show i<9223372036854775807 by omega),zke xs hx hn r (i+1) (acc+x.length) h5 (by omega),zhk,Nat.add_assoc]
theorem zkd [Dfr] (xs:List (List ByteArray)) (hn:xs.length≤1000000000):∀(r:List (List ByteArray)) (i:Nat) (acc:List ByteArray),xs.drop i=r→acc.length+zhk r≤1000000000→zef acc xs (xs.length:Int) (i:Int)=some (0,acc++r.flatten)
 |[],i,acc,h,ha=>by obtain ⟨h1,h2⟩:=drop_nil h;rw [zil];simp only [h2,cond_false,List.flatten_nil,List.append_nil]
 |x::r,i,acc,h,ha=>by obtain ⟨h1,h2,h3,h4,h5,h6⟩:=zab h;simp only [zhk] at ha;rw [zil];simp only [h2,h3,h4,room (show (acc.length+x.length)*16≤140737488355328 by omega),cond_true,zar (show i<9223372036854775807 by omega),zkd xs hn r (i+1) (acc++x) h5 (by rw [List.length_append];omega),List.flatten_cons,List.append_assoc]
theorem zwp [Dfr] (xs:List (List ByteArray)) (hx:zhk xs≤1000000000) (hn:xs.length≤1000000000):zin xs=some xs.flatten:=by rw [zuw];have h0:=zke xs hx hn xs 0 0 rfl (by omega);have h2:=zkd xs hn xs 0 [] rfl (by simpa using hx);simp only [Int.natCast_zero,Nat.zero_add] at h0 h2;simp only [h0,Option.bind_some,zzb _ hx,h2,List.nil_append]
theorem zli [Dfr] (xs ys:List ByteArray) (hx:xs.length≤4611686018427387904) (hl:xs.length=ys.length) (b:Bool):∀(r:List ByteArray) (i:Nat),xs.drop i=r→zes xs ys b (xs.length:Int) (i:Int)=some (if r=ys.drop i then (0,b) else (1,false))
 |[],i,h=>by rw [zjw];obtain ⟨h1,h2⟩:=drop_nil h;simp only [h2,cond_false,List.drop_eq_nil_of_le (show ys.length≤i by omega),if_true]
 |x::r,i,h=>by
  rw [zjw];obtain ⟨h1,h2,h3,h4,h5,h6⟩:=zab h;cases hy:ys.drop i with
  |nil=>have:=List.drop_eq_nil_iff.1 hy;omega
  |cons y s=>
   obtain ⟨k1,k2,k3,k4,k5,k6⟩:=zab hy;simp only [h2,h3,h4,k3,k4,cond_true,str_eq,zar (show i<9223372036854775807 by omega),zli xs ys hx hl b r (i+1) h5,k5];by_cases e:x=y
   ·simp [e]
   ·simp [e]
theorem zyp [Dfr] (xs ys:List ByteArray) (hx:xs.length≤4611686018427387904):zjz xs ys=some (decide (xs=ys)):=by
 rw [zwn];by_cases hl:xs.length=ys.length
 ·have h1:((xs.length:Int) != (ys.length:Int))=false:=by simp [hl]
  have:=zli xs ys hx hl false xs 0 rfl;simp only [Int.natCast_zero,List.drop_zero] at this;simp only [h1,cond_false,this,Option.bind_some];by_cases e:xs=ys<;>simp [e,Nat.beq]
 ·have h1:((xs.length:Int) != (ys.length:Int))=true:=by simp;omega
  have h2:xs≠ys:=fun e=>hl (by rw [e])
  simp [h1,h2]
theorem zlh [Dfr] (xs:List ByteArray) (a:ByteArray) (b:Int) (hx:xs.length≤4611686018427387904):∀(r:List ByteArray) (i:Nat),xs.drop i=r→∃n:Int×Int,zeq xs a b (xs.length:Int) (i:Int)=some (if a∈r then (1,n.1) else (0,b))∧0≤n.1
 |[],i,h=>by obtain ⟨h1,h2⟩:=drop_nil h;refine ⟨(0,0),?_,Int.le_refl _⟩;rw [zfe];simp only [h2,cond_false];simp
 |x::r,i,h=>by
  obtain ⟨h1,h2,h3,h4,h5,h6⟩:=zab h;obtain ⟨n,hn,hn0⟩:=zlh xs a b hx r (i+1) h5;by_cases e:a=x
  ·refine ⟨((i:Int),0),?_,by simp⟩;rw [zfe];simp only [h2,h3,h4,cond_true,str_eq,e];simp
  ·refine ⟨n,?_,hn0⟩;rw [zfe];simp only [h2,h3,h4,cond_true,str_eq,zar (show i<9223372036854775807 by omega),hn,decide_eq_false e,decide_eq_false (Ne.symm e),cond_false];simp [e]
theorem ztm [Dfr] (xs:List ByteArray) (a:ByteArray) (hx:xs.length≤4611686018427387904):zgy xs a=some (decide (a∈xs)):=by
 obtain ⟨n,hn,hn0⟩:=zlh xs a 0 hx xs 0 rfl;rw [Int.natCast_zero] at hn;rw [zrx,zwl];simp only [hn,Option.bind_some];by_cases e:a∈xs
 ·simp [e,Nat.beq,hn0]
 ·simp [e,Nat.beq]
theorem zoc [Dfr] (xs:List Int) (a:Int) (b:Int) (hx:xs.length≤4611686018427387904):∀(r:List Int) (i:Nat),xs.drop i=r→∃n:Int×Int,zgb xs a b (xs.length:Int) (i:Int)=some (if a∈r then (1,n.1) else (0,b))∧0≤n.1
 |[],i,h=>by obtain ⟨h1,h2⟩:=drop_nil h;refine ⟨(0,0),?_,Int.le_refl _⟩;rw [zgx];simp only [h2,cond_false];simp
 |x::r,i,h=>by
  obtain ⟨h1,h2,h3,h4,h5,h6⟩:=zab h;obtain ⟨n,hn,hn0⟩:=zoc xs a b hx r (i+1) h5;by_cases e:a=x
  ·refine ⟨((i:Int),0),?_,by simp⟩;rw [zgx];simp only [h2,h3,h4,cond_true,int_eq,e];simp
  ·refine ⟨n,?_,hn0⟩;rw [zgx];simp only [h2,h3,h4,cond_true,int_eq,zar (show i<9223372036854775807 by omega),hn,decide_eq_false e,decide_eq_false (Ne.symm e),cond_false];simp [e]
theorem zmu [Dfr] (xs:List Int) (a:Int) (hx:xs.length≤4611686018427387904):zgc xs a=some (decide (a∈xs)):=by
 obtain ⟨n,hn,hn0⟩:=zoc xs a 0 hx xs 0 rfl;rw [Int.natCast_zero] at hn;rw [zwo,qci];simp only [hn,Option.bind_some];by_cases e:a∈xs
 ·simp [e,Nat.beq,hn0]
 ·simp [e,Nat.beq]
theorem zkc [Dfr] (xs:List Int) (f:FnV) (p:Int→Bool) (b:Int) (hx:xs.length≤4611686018427387904) (hp:∀x∈xs,dyn E f [.one (.int .i64 x)] .bool=some (p x)):∀(r:List Int) (i:Nat),xs.drop i=r→∃n:Int×Int,zee xs f b (xs.length:Int) (i:Int)=some (if r.any p then (1,n.1) else (0,b))∧0≤n.1
 |[],i,h=>by obtain ⟨h1,h2⟩:=drop_nil h;refine ⟨(0,0),?_,Int.le_refl _⟩;rw [zfa];simp only [h2,cond_false];simp
 |x::r,i,h=>by
  obtain ⟨h1,h2,h3,h4,h5,h6⟩:=zab h;obtain ⟨n,hn,hn0⟩:=zkc xs f p b hx hp r (i+1) h5;have hxm:x∈xs:=by
   have:x∈xs.drop i:=by rw [h];exact List.mem_cons_self ..
   exact List.mem_of_mem_drop this
  have hpx:=hp x hxm;cases e:p x with
  |true=>refine ⟨((i:Int),0),?_,by simp⟩;rw [zfa];simp only [h2,h3,h4,hpx,e,cond_true,Option.bind_some,List.any_cons,Bool.true_or,if_true]
  |false=>refine ⟨n,?_,hn0⟩;rw [zfa];simp only [h2,h3,h4,hpx,e,cond_true,cond_false,Option.bind_some,List.any_cons,Bool.false_or,zar (show i<9223372036854775807 by omega),hn]
theorem zry [Dfr] (xs:List Int) (f:FnV) (p:Int→Bool) (hx:xs.length≤4611686018427387904) (hp:∀x∈xs,dyn E f [.one (.int .i64 x)] .bool=some (p x)):zgi xs f=some (xs.any p):=by
 obtain ⟨n,hn,hn0⟩:=zkc xs f p 0 hx hp xs 0 rfl;rw [Int.natCast_zero] at hn;rw [zqw,zus];simp only [hn,Option.bind_some];cases e:xs.any p with
 |true=>simp [Nat.beq,hn0]
 |false=>simp [Nat.beq]
theorem zju [Dfr] (xs:List Mv) (a:Mv) (b:Int) (hx:xs.length≤4611686018427387904):∀(r:List Mv) (i:Nat),xs.drop i=r→∃n:Int×Int,zdq xs a b (xs.length:Int) (i:Int)=some (if a∈r then (1,n.1) else (0,b))∧0≤n.1
 |[],i,h=>by obtain ⟨h1,h2⟩:=drop_nil h;refine ⟨(0,0),?_,Int.le_refl _⟩;rw [zer];simp only [h2,cond_false];simp
 |x::r,i,h=>by
  obtain ⟨h1,h2,h3,h4,h5,h6⟩:=zab h;obtain ⟨n,hn,hn0⟩:=zju xs a b hx r (i+1) h5;by_cases e:a=x
  ·refine ⟨((i:Int),0),?_,by simp⟩;rw [zer];simp only [h2,h3,h4,cond_true,xgy,e];simp
  ·refine ⟨n,?_,hn0⟩;rw [zer];simp only [h2,h3,h4,cond_true,xgy,zar (show i<9223372036854775807 by omega),hn,decide_eq_false e,decide_eq_false (Ne.symm e),cond_false];simp [e]
theorem zqv [Dfr] (xs:List Mv) (a:Mv) (hx:xs.length≤4611686018427387904):zfp xs a=some (decide (a∈xs)):=by
 obtain ⟨n,hn,hn0⟩:=zju xs a 0 hx xs 0 rfl;rw [Int.natCast_zero] at hn;rw [zpq,ztk];simp only [hn,Option.bind_some];by_cases e:a∈xs
 ·simp [e,Nat.beq,hn0]
 ·simp [e,Nat.beq]
theorem zqx [Dfr] (xs:List Tc) (h:xs.length≤1000000000):zdu xs=some xs:=by rw [zpr];unfold zcf;rw [room (show xs.length*32≤140737488355328 by omega)];rfl
theorem zfl [Dfr] (xs:List Tc) (f:FnV) (p:Tc→Bool) (b:Int) (hx:xs.length≤4611686018427387904) (hp:∀x∈xs,dyn E f [.agg [.slice 9 .str x.1 .no,.int .i64 x.2]] .bool=some (p x)):∀(r:List Tc) (i:Nat),xs.drop i=r→∃n:Int×Int,zbt xs f b (xs.length:Int) (i:Int)=some (if r.any p then (1,n.1) else (0,b))∧0≤n.1
 |[],i,h=>by obtain ⟨h1,h2⟩:=drop_nil h;refine ⟨(0,0),?_,Int.le_refl _⟩;rw [zcp];simp only [h2,cond_false];simp
 |x::r,i,h=>by
  obtain ⟨h1,h2,h3,h4,h5,h6⟩:=zab h;obtain ⟨n,hn,hn0⟩:=zfl xs f p b hx hp r (i+1) h5;have hxm:x∈xs:=by
   have:x∈xs.drop i:=by rw [h];exact List.mem_cons_self ..
   exact List.mem_of_mem_drop this
  have hpx:=hp x hxm;cases e:p x with
  |true=>refine ⟨((i:Int),0),?_,by simp⟩;rw [zcp];simp only [h2,h3,h4,hpx,e,cond_true,Option.bind_some,List.any_cons,Bool.true_or,if_true]
  |false=>refine ⟨n,?_,hn0⟩;rw [zcp];simp only [h2,h3,h4,hpx,e,cond_true,cond_false,Option.bind_some,List.any_cons,Bool.false_or,zar (show i<9223372036854775807 by omega),hn]
theorem zlq [Dfr] (xs:List Tc) (f:FnV) (p:Tc→Bool) (hx:xs.length≤4611686018427387904) (hp:∀x∈xs,dyn E f [.agg [.slice 9 .str x.1 .no,.int .i64 x.2]] .bool=some (p x)):zdg xs f=some (xs.any p):=by
 obtain ⟨n,hn,hn0⟩:=zfl xs f p 0 hx hp xs 0 rfl;rw [Int.natCast_zero] at hn;rw [zkv,zmq];simp only [hn,Option.bind_some];cases e:xs.any p with
 |true=>simp [Nat.beq,hn0]
 |false=>simp [Nat.beq]
theorem zgh [Dfr] (xs:List (List Nd)) (f:FnV) (p:List Nd→Bool) (b:Int) (hx:xs.length≤4611686018427387904) (hp:∀x∈xs,dyn E f [.one (.slice 68 (.pair (.int .i64) (.pair .str (.int .i64))) x .no)] .bool=some (p x)):∀(r:List (List Nd)) (i:Nat),xs.drop i=r→∃n:Int×Int,zce xs f b (xs.length:Int) (i:Int)=some (if r.any p then (1,n.1) else (0,b))∧0≤n.1
 |[],i,h=>by obtain ⟨h1,h2⟩:=drop_nil h;refine ⟨(0,0),?_,Int.le_refl _⟩;rw [zcx];simp only [h2,cond_false];simp
 |x::r,i,h=>by
  obtain ⟨h1,h2,h3,h4,h5,h6⟩:=zab h;obtain ⟨n,hn,hn0⟩:=zgh xs f p b hx hp r (i+1) h5;have hxm:x∈xs:=by
   have:x∈xs.drop i:=by rw [h];exact List.mem_cons_self ..
   exact List.mem_of_mem_drop this
  have hpx:=hp x hxm;cases e:p x with
  |true=>refine ⟨((i:Int),0),?_,by simp⟩;rw [zcx];simp only [h2,h3,h4,hpx,e,cond_true,Option.bind_some,List.any_cons,Bool.true_or,if_true]
  |false=>refine ⟨n,?_,hn0⟩;rw [zcx];simp only [h2,h3,h4,hpx,e,cond_true,cond_false,Option.bind_some,List.any_cons,Bool.false_or,zar (show i<9223372036854775807 by omega),hn]
theorem zms [Dfr] (xs:List (List Nd)) (f:FnV) (p:List Nd→Bool) (hx:xs.length≤4611686018427387904) (hp:∀x∈xs,dyn E f [.one (.slice 68 (.pair (.int .i64) (.pair .str (.int .i64))) x .no)] .bool=some (p x)):zdw xs f=some (xs.any p):=by
 obtain ⟨n,hn,hn0⟩:=zgh xs f p 0 hx hp xs 0 rfl;rw [Int.natCast_zero] at hn;rw [zlx,zoe];simp only [hn,Option.bind_some];cases e:xs.any p with
 |true=>simp [Nat.beq,hn0]
 |false=>simp [Nat.beq]
theorem emp [Dfr]:(ByteArray.empty.toList==ByteArray.empty.toList)=true:=beq_self_eq_true _
theorem yru [Dfr] (x:Int):qys x=some (zkw x):=by
 rw [ynu];unfold zkw;by_cases h:x≥1
 ·rw [decide_eq_true h];simp
 ·rw [decide_eq_false h];rfl
theorem yhu [Dfr] (x y:Int):qpo x y=some (bs x y):=by rw [ydf];simp only [yru,Option.bind_some,int_eq,bs];cases zkw x<;>cases zkw y<;>simp;by_cases h1:x=2<;>by_cases h2:y=2<;>simp [h1,h2]
theorem yol [Dfr] (x:Int):qno x=some (zkw x):=by
 rw [yis];simp only [int_eq];by_cases h1:x=1
 ·subst h1;rfl
 by_cases h2:x=2
 ·subst h2;rfl
 by_cases h3:x=3
 ·subst h3;rfl
 have:zkw x=false:=by
  cases h:zkw x with
  |false=>rfl
  |true=>rcases zqy.1 h with h|h|h<;>contradiction
 rw [this];simp only [h1,h2,h3,decide_false,cond_false]
theorem qlu [Dfr] (x y:Int):qbt x y=some (bs x y):=by rw [yaq];simp only [yol,Option.bind_some,int_eq,bs];cases hx:zkw x<;>cases hy:zkw y<;>simp;rcases zqy.1 hx with rfl|rfl|rfl<;>rcases zqy.1 hy with rfl|rfl|rfl<;>rfl
end Go.Proofs.YtjolkdjkhekbnaaGreatDoor.Sv
