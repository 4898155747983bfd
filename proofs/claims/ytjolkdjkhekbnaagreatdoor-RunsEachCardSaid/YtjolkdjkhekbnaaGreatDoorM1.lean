/- Rows of nodes as trees: plain Lean, no program in sight. -/
import Derived.Test.YtjolkdjkhekbnaaGreatDoorEv5
namespace Go.Rd
open Go Go.Sv
instance (priority:=low) decMemD {α:Type} [DecidableEq α] (a:α):(l:List α)→Decidable (a∈l)
 |[]=>isFalse (by simp)
 |x::r=>if h:a=x then isTrue (by rw [h];exact List.mem_cons_self ..) else match decMemD a r with
  |isTrue h'=>isTrue (List.mem_cons_of_mem _ h')
  |isFalse h'=>isFalse (fun hm=>by rcases List.mem_cons.1 hm with h1|h1;exact h h1;exact h' h1)
def ar (k:Int):Option Nat :=
 if k=1∨k=2∨k=3∨k=4∨k=11 then some 0
 else if k=9∨k=14 then some 1
 else if k=5∨k=6∨k=7∨k=8∨k=10∨k=12∨k=13 then some 2 else none
def arI (k:Int):Int:=match ar k with|some n=>(n:Int)|none=> -1
inductive T where
 |n0 (n:Nd)
 |n1 (n:Nd) (a:T)
 |n2 (n:Nd) (a b:T)
 deriving DecidableEq
namespace T
def row:T→List Nd
 |n0 n=>[n]
 |n1 n a=>n::a.row
 |n2 n a b=>n::(a.row++b.row)
def hd:T→Nd
 |n0 n=>n
 |n1 n _=>n
 |n2 n _ _=>n
def kids:T→List T
 |n0 _=>[]
 |n1 _ a=>[a]
 |n2 _ a b=>[a,b]
def size:T→Nat
 |n0 _=>1
 |n1 _ a=>a.size+1
 |n2 _ a b=>a.size+b.size+1
def depth:T→Nat
 |n0 _=>1
 |n1 _ a=>a.depth+1
 |n2 _ a b=>max a.depth b.depth+1
def ok:T→Prop
 |n0 n=>ar n.1=some 0
 |n1 n a=>ar n.1=some 1∧a.ok
 |n2 n a b=>ar n.1=some 2∧a.ok∧b.ok
def all (p:Nd→Prop):T→Prop
 |n0 n=>p n
 |n1 n a=>p n∧a.all p
 |n2 n a b=>p n∧a.all p∧b.all p
theorem zab:∀t:T,t.row.length=t.size
 |n0 n=>rfl
 |n1 n a=>by simp [row,size,zab a]
 |n2 n a b=>by simp [row,size,zab a,zab b]
theorem zhu (t:T):0<t.size:=by cases t<;>simp [size]
theorem ykv (t:T):∃r,t.row=t.hd::r:=by cases t<;>exact ⟨_,rfl⟩
theorem qkq (t:T):t.row≠[]:=by cases t<;>simp [row]
theorem zuu:∀t:T,t.depth≤t.size
 |n0 n=>Nat.le_refl _
 |n1 n a=>by simp only [depth,size];have:=zuu a;omega
 |n2 n a b=>by simp only [depth,size];have:=zuu a;have:=zuu b;omega
theorem qhv (t:T):0<t.depth:=by cases t<;>simp [depth]
end T
def parse:Nat→List Nd→Option (T×List Nd)
 |0,_=>none
 |_+1,[]=>none
 |f+1,n::l =>
  match ar n.1 with
  |none=>none
  |some 0=>some (.n0 n,l)
  |some 1=>(match parse f l with
   |some (a,l1)=>some (.n1 n a,l1)
   |none=>none)
  |some _=>(match parse f l with
   |some (a,l1)=>(match parse f l1 with
    |some (b,l2)=>some (.n2 n a b,l2)
    |none=>none)
   |none=>none)
theorem yia {k:Int} {n:Nat} (h:ar k=some n):n≤2:=by
 unfold ar at h
 repeat' split at h
 all_goals first|(cases h;decide)|cases h
theorem zmz:∀{t:T} {f:Nat} {r:List Nd},t.ok→t.size≤f→parse f (t.row++r)=some (t,r)
 | .n0 n,0,r,h,hf=>by simp [T.size] at hf
 | .n0 n,f+1,r,h,hf=>by
   have h:ar n.1=some 0:=h
   simp [T.row,parse,h]
 | .n1 n a,0,r,h,hf=>by simp [T.size] at hf
 | .n1 n a,f+1,r,h,hf=>by
   have h1:ar n.1=some 1:=h.1
   simp only [T.size] at hf
   simp [T.row,parse,h1,zmz (t:=a) (f:=f) (r:=r) h.2 (by omega)]
 | .n2 n a b,0,r,h,hf=>by simp [T.size] at hf
 | .n2 n a b,f+1,r,h,hf=>by
   have h1:ar n.1=some 2:=h.1
   simp only [T.size] at hf
   simp only [T.row,List.cons_append,List.append_assoc,parse,h1,zmz (t:=a) (f:=f) (r:=b.row++r) h.2.1 (by omega),zmz (t:=b) (f:=f) (r:=r) h.2.2 (by omega)]
theorem zqb:∀{f:Nat} {l:List Nd} {t:T} {r:List Nd},parse f l=some (t,r)→t.ok∧l=t.row++r
 |0,l,t,r,h=>by simp [parse] at h
 |f+1,[],t,r,h=>by simp [parse] at h
 |f+1,n::l,t,r,h=>by
  simp only [parse] at h
  split at h
  ·cases h
  ·cases h;exact ⟨by assumption,rfl⟩
  ·split at h
   ·rename_i h1 _ _ _ h2
    cases h
    obtain ⟨h3,rfl⟩:=zqb h2
    exact ⟨⟨h1,h3⟩,rfl⟩
   ·cases h
  ·rename_i m h0 h0' h1
   split at h
   ·rename_i h2
    split at h
    ·rename_i h3
     cases h
     obtain ⟨k1,rfl⟩:=zqb h2
     obtain ⟨k2,rfl⟩:=zqb h3
     have:m=2:=by
      have:=yia h1
      rcases m with _|_|_|m<;>first|rfl|(exfalso;simp_all;done)|(exfalso;omega)
     subst this
     exact ⟨⟨h1,k1,k2⟩,by simp [T.row]⟩
    ·cases h
   ·cases h
theorem yks {t u:T} {r s:List Nd} (ht:t.ok) (hu:u.ok) (h:t.row++r=u.row++s):t=u∧r=s:=by
 have h1:=zmz (f:=t.size+u.size) (r:=r) ht (by omega)
 have h2:=zmz (f:=t.size+u.size) (r:=s) hu (by omega)
 rw [h,h2] at h1
 cases h1;exact ⟨rfl,rfl⟩
theorem qao {t u:T} (ht:t.ok) (hu:u.ok) (h:t.row=u.row):t=u:=(yks (r:=[]) (s:=[]) ht hu (by simpa using h)).1
def P (l:List Nd):Option (T×List Nd):=parse l.length l
theorem qio {t:T} {r:List Nd} (h:t.ok):P (t.row++r)=some (t,r):=zmz h (by simp [T.zab])
theorem qin {t:T} (h:t.ok):P t.row=some (t,[]):=by simpa using qio (r:=[]) h
theorem zuf {l:List Nd} {t:T} {r:List Nd} (h:P l=some (t,r)):t.ok∧l=t.row++r:=zqb h
theorem yvw {l:List Nd} {t:T} {r:List Nd}:P l=some (t,r)↔t.ok∧l=t.row++r:=⟨zuf,fun ⟨h,e⟩=>e▸qio h⟩
theorem yvv:P []=none:=rfl
theorem yqm (n:Nd) (l:List Nd):P (n::l)=match ar n.1 with
 |none=>none
 |some 0=>some (.n0 n,l)
 |some 1=>(match P l with
  |some (a,l1)=>some (.n1 n a,l1)
  |none=>none)
 |some _=>(match P l with
  |some (a,l1)=>(match P l1 with
   |some (b,l2)=>some (.n2 n a b,l2)
   |none=>none)
  |none=>none):=by
 have e:∀(l1:List Nd),l1.length≤l.length→parse l.length l1=P l1:=fun l1 hl=>by
  cases h:P l1 with
  |some q =>
   obtain ⟨t,r⟩:=q
   obtain ⟨h1,rfl⟩:=zuf h
   exact zmz h1 (by simp [T.zab] at hl;omega)
  |none =>
   cases h':parse l.length l1 with
   |none=>rfl
   |some q =>
    obtain ⟨t,r⟩:=q
    obtain ⟨h1,rfl⟩:=zqb h'
    rw [qio h1] at h;cases h
 show parse (l.length+1) (n::l)=_
 simp only [parse]
 split
 ·rename_i h;simp [h]
 ·rename_i h;simp [h]
 ·rename_i h;simp only [h,e l (Nat.le_refl _)]
 ·rename_i m h0 h1 h
  have:m=2:=by
   have:=yia h
   rcases m with _|_|_|m<;>first|rfl|(exfalso;simp_all;done)|(exfalso;omega)
  subst this
  simp only [h,e l (Nat.le_refl _)]
  cases hp:P l with
  |none=>rfl
  |some q =>
   obtain ⟨a,l1⟩:=q
   simp only
   obtain ⟨_,rfl⟩:=zuf hp
   rw [e l1 (by simp)]
def tree (l:List Nd):Option T:=match P l with|some (t,[])=>some t|_=>none
theorem zht {l:List Nd} {t:T}:tree l=some t↔t.ok∧l=t.row:=by
 unfold tree
 constructor
 ·intro h
  split at h
  ·rename_i h1
   cases h
   have:=zuf h1
   simpa using this
  ·cases h
 ·rintro ⟨h,rfl⟩
  rw [qin h]
theorem znu {t:T} (h:t.ok):tree t.row=some t:=zht.2 ⟨h,rfl⟩
theorem zan {α:Type} [Inhabited α] {xs:List α} {i:Nat} {x:α} {r:List α} (h:xs.drop i=x::r):i<xs.length∧decide ((i:Int)<(xs.length:Int))=true∧zaa (i:Int) xs.length=true∧ix xs (i:Int)=x∧xs.drop (i+1)=r∧xs.length=i+1+r.length:=by
 have hi:i<xs.length:=by
  rcases Nat.lt_or_ge i xs.length with h'|h'
  ·exact h'
  ·rw [List.drop_eq_nil_of_le h'] at h;cases h
 have h3:=(List.drop_eq_getElem_cons hi).symm.trans h
 simp only [List.cons.injEq] at h3
 have hl:=congrArg List.length h
 simp only [List.length_drop,List.length_cons] at hl
 exact ⟨hi,decide_eq_true (by omega),zqh hi,(qhg hi).trans h3.1,h3.2,by omega⟩
theorem drop_nil {α:Type} {xs:List α} {i:Nat} (h:xs.drop i=[]):xs.length≤i∧decide ((i:Int)<(xs.length:Int))=false:=by
 have:=List.drop_eq_nil_iff.1 h
 exact ⟨this,decide_eq_false (by omega)⟩
theorem zen {n:Nat} (h:n<9223372036854775807):w64 ((n:Int)+1)=((n+1:Nat):Int):=ycd h
theorem yjr {n:Nat} (h:n≤9223372036854775807):w64 (n:Int)=(n:Int):=zxp h
theorem room {n b:Nat} (h:n*b≤140737488355328):zav n b=true:=qgh h
def zlw (s:Int):Bool:=decide (1≤s)&&decide (s≤3)
def bs (a b:Int):Int:=if zlw a&&zlw b then (if a=2∨b=2 then 2 else if b>a then b else a) else 0
theorem yhp (a b:Int):bs a b=bs b a:=by
 unfold bs
 cases zlw a<;>cases zlw b<;>simp
 by_cases h1:a=2<;>by_cases h2:b=2<;>simp [h1,h2]
 by_cases h3:b>a<;>by_cases h4:a>b<;>simp [h3,h4]<;>omega
theorem zye {s:Int}:zlw s=true↔s=1∨s=2∨s=3:=by
 simp only [zlw,Bool.and_eq_true,decide_eq_true_eq];omega
theorem yte {a b:Int} (ha:zlw a=true) (hb:zlw b=true):zlw (bs a b)=true:=by
 rcases zye.1 ha with rfl|rfl|rfl<;>rcases zye.1 hb with rfl|rfl|rfl<;>decide
end Go.Rd
