/- Rows of nodes as trees: plain Lean, no program in sight. -/
import Derived.Test.YtjolkdjkhekbnaaGreatDoorSvTop
set_option linter.unusedVariables false
set_option linter.unusedSimpArgs false
namespace Go.Rd
open Go Go.Sv
instance (priority:=low) decMemD {α:Type} [DecidableEq α] (a:α):(l:List α)→Decidable (a∈l)
 |[]=>isFalse (by simp)
 |x::r=>if h:a=x then isTrue (by rw [h];exact List.mem_cons_self ..) else match decMemD a r with
  |isTrue h'=>isTrue (List.mem_cons_of_mem _ h')
  |isFalse h'=>isFalse (fun hm=>by rcases List.mem_cons.1 hm with h1|h1;exact h h1;exact h' h1)
def ar (k:Int):Option Nat:=
 if k=1∨k=2∨k=3∨k=4∨k=11 then some 0
 else if k=9∨k=14 then some 1
 else if k=5∨k=6∨k=7∨k=8∨k=10∨k=12∨k=13 then some 2 else none
def arI (k:Int):Int:=match ar k with|some n=>(n:Int)|none=> -1
inductive T where
 |n0 (n:Nd)
 |n1 (n:Nd) (a:T)
 |n2 (n:Nd) (a b:T)
 deriving DecidableEq
namespace T
def row:T→List Nd
 |n0 n=>[n]
 |n1 n a=>n::a.row
 |n2 n a b=>n::(a.row++b.row)
def hd:T→Nd
 |n0 n=>n
 |n1 n _=>n
 |n2 n _ _=>n
def kids:T→List T
 |n0 _=>[]
 |n1 _ a=>[a]
 |n2 _ a b=>[a,b]
def size:T→Nat
 |n0 _=>1
 |n1 _ a=>a.size+1
 |n2 _ a b=>a.size+b.size+1
def depth:T→Nat
 |n0 _=>1
 |n1 _ a=>a.depth+1
 |n2 _ a b=>max a.depth b.depth+1
def ok:T→Prop
 |n0 n=>ar n.1=some 0
 |n1 n a=>ar n.1=some 1∧a.ok
 |n2 n a b=>ar n.1=some 2∧a.ok∧b.ok
def all (p:Nd→Prop):T→Prop
 |n0 n=>p n
 |n1 n a=>p n∧a.all p
 |n2 n a b=>p n∧a.all p∧b.all p
theorem zab:∀t:T,t.row.length=t.size
 |n0 n=>rfl
 |n1 n a=>by simp [row,size,zab a]
 |n2 n a b=>by simp [row,size,zab a,zab b]
theorem zdj (t:T):0<t.size:=by cases t<;>simp [size]
theorem xan (t:T):∃r,t.row=t.hd::r:=by cases t<;>exact ⟨_,rfl⟩
theorem qxi (t:T):t.row≠[]:=by cases t<;>simp [row]
theorem zpt:∀t:T,t.depth≤t.size
 |n0 n=>Nat.le_refl _
 |n1 n a=>by simp only [depth,size];have:=zpt a;omega
 |n2 n a b=>by simp only [depth,size];have:=zpt a;have:=zpt b;omega
theorem qcw (t:T):0<t.depth:=by cases t<;>simp [depth]
end T
def parse:Nat→List Nd→Option (T×List Nd)
 |0,_=>none
 |_+1,[]=>none
 |f+1,n::l=>
  match ar n.1 with
  |none=>none
  |some 0=>some (.n0 n,l)
  |some 1=>(match parse f l with
   |some (a,l1)=>some (.n1 n a,l1)
   |none=>none)
  |some _=>(match parse f l with
   |some (a,l1)=>(match parse f l1 with
    |some (b,l2)=>some (.n2 n a b,l2)
    |none=>none)
   |none=>none)
theorem yxs {k:Int} {n:Nat} (h:ar k=some n):n≤2:=by
 unfold ar at h
 repeat' split at h
 all_goals first|(cases h;decide)|cases h
theorem ztd:∀{t:T} {f:Nat} {r:List Nd},t.ok→t.size≤f→parse f (t.row++r)=some (t,r)
 | .n0 n,0,r,h,hf=>by simp [T.size] at hf
 | .n0 n,f+1,r,h,hf=>by have h:ar n.1=some 0:=h;simp [T.row,parse,h]
 | .n1 n a,0,r,h,hf=>by simp [T.size] at hf
 | .n1 n a,f+1,r,h,hf=>by have h1:ar n.1=some 1:=h.1;simp only [T.size] at hf;simp [T.row,parse,h1,ztd (t:=a) (f:=f) (r:=r) h.2 (by omega)]
 | .n2 n a b,0,r,h,hf=>by simp [T.size] at hf
 | .n2 n a b,f+1,r,h,hf=>by have h1:ar n.1=some 2:=h.1;simp only [T.size] at hf;simp only [T.row,List.cons_append,List.append_assoc,parse,h1,ztd (t:=a) (f:=f) (r:=b.row++r) h.2.1 (by omega),ztd (t:=b) (f:=f) (r:=r) h.2.2 (by omega)]
theorem zxf:∀{f:Nat} {l:List Nd} {t:T} {r:List Nd},parse f l=some (t,r)→t.ok∧l=t.row++r
 |0,l,t,r,h=>by simp [parse] at h
 |f+1,[],t,r,h=>by simp [parse] at h
 |f+1,n::l,t,r,h=>by
  simp only [parse] at h;split at h
  ·cases h
  ·cases h;exact ⟨by assumption,rfl⟩
  ·split at h
   ·rename_i h1 _ _ _ h2;cases h;obtain ⟨h3,rfl⟩:=zxf h2;exact ⟨⟨h1,h3⟩,rfl⟩
   ·cases h
  ·rename_i m h0 h0' h1;split at h
   ·rename_i h2;split at h
    ·rename_i h3;cases h;obtain ⟨k1,rfl⟩:=zxf h2;obtain ⟨k2,rfl⟩:=zxf h3;have:m=2:=by have:=yxs h1;rcases m with _|_|_|m<;>first|rfl|(exfalso;simp_all;done)|(exfalso;omega)
     subst this;exact ⟨⟨h1,k1,k2⟩,by simp [T.row]⟩
    ·cases h
   ·cases h
theorem xak {t u:T} {r s:List Nd} (ht:t.ok) (hu:u.ok) (h:t.row++r=u.row++s):t=u∧r=s:=by have h1:=ztd (f:=t.size+u.size) (r:=r) ht (by omega);have h2:=ztd (f:=t.size+u.size) (r:=s) hu (by omega);rw [h,h2] at h1;cases h1;exact ⟨rfl,rfl⟩
theorem qkx {t u:T} (ht:t.ok) (hu:u.ok) (h:t.row=u.row):t=u:=(xak (r:=[]) (s:=[]) ht hu (by simpa using h)).1
def P (l:List Nd):Option (T×List Nd):=parse l.length l
theorem qem {t:T} {r:List Nd} (h:t.ok):P (t.row++r)=some (t,r):=ztd h (by simp [T.zab])
theorem qfo {t:T} (h:t.ok):P t.row=some (t,[]):=by simpa using qem (r:=[]) h
theorem zxu {l:List Nd} {t:T} {r:List Nd} (h:P l=some (t,r)):t.ok∧l=t.row++r:=zxf h
theorem xir {l:List Nd} {t:T} {r:List Nd}:P l=some (t,r)↔t.ok∧l=t.row++r:=⟨zxu,fun ⟨h,e⟩=>e▸qem h⟩
theorem xla:P []=none:=rfl
theorem xfq (n:Nd) (l:List Nd):P (n::l)=match ar n.1 with
 |none=>none
 |some 0=>some (.n0 n,l)
 |some 1=>(match P l with
  |some (a,l1)=>some (.n1 n a,l1)
  |none=>none)
 |some _=>(match P l with
  |some (a,l1)=>(match P l1 with
   |some (b,l2)=>some (.n2 n a b,l2)
   |none=>none)
  |none=>none):=by
 have e:∀(l1:List Nd),l1.length≤l.length→parse l.length l1=P l1:=fun l1 hl=>by
  cases h:P l1 with
  |some q=>obtain ⟨t,r⟩:=q;obtain ⟨h1,rfl⟩:=zxu h;exact ztd h1 (by simp [T.zab] at hl;omega)
  |none=>
   cases h':parse l.length l1 with
   |none=>rfl
   |some q=>obtain ⟨t,r⟩:=q;obtain ⟨h1,rfl⟩:=zxf h';rw [qem h1] at h;cases h
 show parse (l.length+1) (n::l)=_;simp only [parse];split
 ·rename_i h;simp [h]
 ·rename_i h;simp [h]
 ·rename_i h;simp only [h,e l (Nat.le_refl _)]
 ·rename_i m h0 h1 h;have:m=2:=by have:=yxs h;rcases m with _|_|_|m<;>first|rfl|(exfalso;simp_all;done)|(exfalso;omega)
  subst this;simp only [h,e l (Nat.le_refl _)];cases hp:P l with
  |none=>rfl
  |some q=>obtain ⟨a,l1⟩:=q;simp only;obtain ⟨_,rfl⟩:=zxu hp;rw [e l1 (by simp)]
def tree (l:List Nd):Option T:=match P l with|some (t,[])=>some t|_=>none
theorem zht {l:List Nd} {t:T}:tree l=some t↔t.ok∧l=t.row:=by
 unfold tree;constructor
 ·intro h;split at h
  ·rename_i h1;cases h;have:=zxu h1
   simpa using this
  ·cases h
 ·rintro ⟨h,rfl⟩;rw [qfo h]
theorem zpi {t:T} (h:t.ok):tree t.row=some t:=zht.2 ⟨h,rfl⟩
theorem zae {α:Type} [Inhabited α] {xs:List α} {i:Nat} {x:α} {r:List α} (h:xs.drop i=x::r):i<xs.length∧decide ((i:Int)<(xs.length:Int))=true∧zaa (i:Int) xs.length=true∧ix xs (i:Int)=x∧xs.drop (i+1)=r∧xs.length=i+1+r.length:=by
 have hi:i<xs.length:=by
  rcases Nat.lt_or_ge i xs.length with h'|h'
  ·exact h'
  ·rw [List.drop_eq_nil_of_le h'] at h;cases h
 have h3:=(List.drop_eq_getElem_cons hi).symm.trans h;simp only [List.cons.injEq] at h3;have hl:=congrArg List.length h;simp only [List.length_drop,List.length_cons] at hl;exact ⟨hi,decide_eq_true (by omega),ztl hi,(qfg hi).trans h3.1,h3.2,by omega⟩
theorem drop_nil {α:Type} {xs:List α} {i:Nat} (h:xs.drop i=[]):xs.length≤i∧decide ((i:Int)<(xs.length:Int))=false:=by have:=List.drop_eq_nil_iff.1 h;exact ⟨this,decide_eq_false (by omega)⟩
theorem zbj {n:Nat} (h:n<9223372036854775807):w64 ((n:Int)+1)=((n+1:Nat):Int):=ysa h
theorem qyy {n:Nat} (h:n≤9223372036854775807):w64 (n:Int)=(n:Int):=qhq h
theorem room {n b:Nat} (h:n*b≤140737488355328):zai n b=true:=qrr h
def zmc (s:Int):Bool:=decide (1≤s)&&decide (s≤3)
def bs (a b:Int):Int:=if zmc a&&zmc b then (if a=2∨b=2 then 2 else if b>a then b else a) else 0
theorem yxj (a b:Int):bs a b=bs b a:=by unfold bs;cases zmc a<;>cases zmc b<;>simp;by_cases h1:a=2<;>by_cases h2:b=2<;>simp [h1,h2];by_cases h3:b>a<;>by_cases h4:a>b<;>simp [h3,h4]<;>omega
theorem zqb {s:Int}:zmc s=true↔s=1∨s=2∨s=3:=by simp only [zmc,Bool.and_eq_true,decide_eq_true_eq];omega
theorem xil {a b:Int} (ha:zmc a=true) (hb:zmc b=true):zmc (bs a b)=true:=by rcases zqb.1 ha with rfl|rfl|rfl<;>rcases zqb.1 hb with rfl|rfl|rfl<;>decide
structure Ord3 {α:Type} (c:α→α→Ordering):Prop where
 eq:∀x y,c x y= .eq↔x=y
 sw:∀x y,c y x=(c x y).swap
 tr:∀x y z,c x y= .lt→c y z= .lt→c x z= .lt
namespace Ord3
variable {α:Type} {c:α→α→Ordering}
theorem rfl' (h:Ord3 c) (x:α):c x x= .eq:=(h.eq x x).2 rfl
theorem gt (h:Ord3 c) {x y:α}:c x y= .gt↔c y x= .lt:=by rw [h.sw x y];cases c x y<;>simp
theorem irr (h:Ord3 c) {x:α}:¬c x x= .lt:=by rw [h.rfl' x];simp
theorem asym (h:Ord3 c) {x y:α} (h1:c x y= .lt):¬c y x= .lt:=fun h2=>h.irr (h.tr _ _ _ h1 h2)
end Ord3
def cmpL {α:Type} (c:α→α→Ordering):List α→List α→Ordering
 |[],[]=>.eq
 |[],_::_=>.lt
 |_::_,[]=>.gt
 |x::xs,y::ys=>(c x y).then (cmpL c xs ys)
def cmpP {α β:Type} (c:α→α→Ordering) (d:β→β→Ordering) (x y:α×β):Ordering:=(c x.1 y.1).then (d x.2 y.2)
theorem ysk {a b:Ordering}:a.then b= .eq↔a= .eq∧b= .eq:=by cases a<;>simp [Ordering.then]
theorem ysj {a b:Ordering}:a.then b= .lt↔a= .lt∨(a= .eq∧b= .lt):=by cases a<;>simp [Ordering.then]
theorem ydz {a b:Ordering}:(a.then b).swap=a.swap.then b.swap:=by cases a<;>rfl
theorem Ord3.pair {α β:Type} {c:α→α→Ordering} {d:β→β→Ordering} (h:Ord3 c) (k:Ord3 d):Ord3 (cmpP c d):=by
 refine ⟨fun x y=> ?_,fun x y=> ?_,fun x y z h1 h2=> ?_⟩
 ·unfold cmpP;rw [ysk,h.eq,k.eq];exact ⟨fun ⟨a,b⟩=>Prod.ext a b,fun e=>by rw [e];exact ⟨rfl,rfl⟩⟩
 ·unfold cmpP;rw [ydz,h.sw,k.sw]
 ·unfold cmpP at*;rw [ysj] at*;rcases h1 with h1|⟨h1,h1'⟩<;>rcases h2 with h2|⟨h2,h2'⟩
  ·exact .inl (h.tr _ _ _ h1 h2)
  ·rw [h.eq] at h2;rw [←h2];exact .inl h1
  ·rw [h.eq] at h1;rw [h1];exact .inl h2
  ·rw [h.eq] at h1 h2;rw [h1,h2];exact .inr ⟨h.rfl' _,k.tr _ _ _ h1' h2'⟩
theorem cmpL_eq {α:Type} {c:α→α→Ordering} (h:Ord3 c):∀x y,cmpL c x y= .eq↔x=y
 |[],[]=>by simp [cmpL]
 |[],_::_=>by simp [cmpL]
 |_::_,[]=>by simp [cmpL]
 |x::xs,y::ys=>by rw [cmpL,ysk,h.eq,cmpL_eq h xs ys];simp
theorem yxe {α:Type} {c:α→α→Ordering} (h:Ord3 c):∀x y,cmpL c y x=(cmpL c x y).swap
 |[],[]=>rfl
 |[],_::_=>rfl
 |_::_,[]=>rfl
 |x::xs,y::ys=>by rw [cmpL,cmpL,ydz,h.sw x y,yxe h xs ys]
theorem yxd {α:Type} {c:α→α→Ordering} (h:Ord3 c):∀x y z,cmpL c x y= .lt→cmpL c y z= .lt→cmpL c x z= .lt
 |[],[],_,h1,_=>by simp [cmpL] at h1
 |[],_::_,[],_,h2=>by simp [cmpL] at h2
 |[],_::_,_::_,_,_=>rfl
 |_::_,[],_,h1,_=>by simp [cmpL] at h1
 |_::_,_::_,[],_,h2=>by simp [cmpL] at h2
 |x::xs,y::ys,z::zs,h1,h2=>by
  rw [cmpL,ysj] at*;rcases h1 with h1|⟨h1,h1'⟩<;>rcases h2 with h2|⟨h2,h2'⟩
  ·exact .inl (h.tr _ _ _ h1 h2)
  ·rw [h.eq] at h2;rw [←h2];exact .inl h1
  ·rw [h.eq] at h1;rw [h1];exact .inl h2
  ·rw [h.eq] at h1 h2;rw [h1,h2];exact .inr ⟨h.rfl' _,yxd h _ _ _ h1' h2'⟩
theorem Ord3.list {α:Type} {c:α→α→Ordering} (h:Ord3 c):Ord3 (cmpL c):=⟨cmpL_eq h,yxe h,yxd h⟩
def cmpI (x y:Int):Ordering:=if x<y then .lt else if x=y then .eq else .gt
theorem ordI:Ord3 cmpI:=by
 refine ⟨fun x y=> ?_,fun x y=> ?_,fun x y z h1 h2=> ?_⟩
 ·unfold cmpI;by_cases h:x<y<;>by_cases h':x=y<;>simp [h,h']<;>omega
 ·unfold cmpI;by_cases h:x<y
  ·rw [if_pos h,if_neg (by omega),if_neg (by omega)];rfl
  ·by_cases h':x=y
   ·rw [if_neg h,if_pos h',if_neg (by omega),if_pos h'.symm];rfl
   ·rw [if_neg h,if_neg h',if_pos (by omega)];rfl
 ·unfold cmpI at*;have a:x<y:=by by_cases h:x<y;exact h;rw [if_neg h] at h1;split at h1<;>cases h1
  have b:y<z:=by by_cases h:y<z;exact h;rw [if_neg h] at h2;split at h2<;>cases h2
  rw [if_pos (by omega)]
theorem xig {x y:Int}:cmpI x y= .lt↔x<y:=by unfold cmpI;by_cases h:x<y<;>by_cases h':x=y<;>simp [h,h']
def cmpU (x y:UInt8):Ordering:=cmpI x.toNat y.toNat
theorem ordU:Ord3 cmpU:=⟨fun x y=>by unfold cmpU;rw [ordI.eq];exact ⟨fun h=>UInt8.toNat_inj.1 (by omega),fun h=>by rw [h]⟩,fun x y=>ordI.sw _ _,fun x y z=>ordI.tr _ _ _⟩
def cmpB (a b:ByteArray):Ordering:=cmpL cmpU a.toList b.toList
theorem ordB:Ord3 cmpB:=⟨fun x y=>by unfold cmpB;rw [ordU.list.eq];exact ⟨fun h=>toList_inj h,fun h=>by rw [h]⟩,fun x y=>ordU.list.sw _ _,fun x y z=>ordU.list.tr _ _ _⟩
theorem qkh:∀a b:List UInt8,Op.bytesLess a b=decide (cmpL cmpU a b= .lt)
 |[],[]=>by simp [Op.bytesLess,cmpL]
 |_::_,[]=>by simp [Op.bytesLess,cmpL]
 |[],_::_=>by simp [Op.bytesLess,cmpL]
 |x::xs,y::ys=>by
  rw [Op.bytesLess,qkh xs ys,cmpL];have e1:decide (x<y)=decide (cmpU x y= .lt):=by unfold cmpU;simp only [xig,UInt8.lt_iff_toNat_lt];congr 1;simp
  have e2:(x==y)=decide (cmpU x y= .eq):=by rw [Bool.eq_iff_iff,beq_iff_eq,decide_eq_true_iff,ordU.eq]
  rw [e1,e2];cases cmpU x y<;>simp [Ordering.then]
theorem qzs (a b:ByteArray):Op.bytesLess a.toList b.toList=decide (cmpB a b= .lt):=qkh _ _
abbrev cmpA:List ByteArray→List ByteArray→Ordering:=cmpL cmpB
theorem ordA:Ord3 cmpA:=ordB.list
abbrev cmpT:Tc→Tc→Ordering:=cmpP cmpA cmpI
theorem ordT:Ord3 cmpT:=ordA.pair ordI
abbrev cmpQ:Tc×Tc→Tc×Tc→Ordering:=cmpP cmpT cmpT
theorem ordQ:Ord3 cmpQ:=ordT.pair ordT
def ordN:Ordering→Int
 | .lt=> -1
 | .eq=>0
 | .gt=>1
theorem yva {o:Ordering}:ordN o<0↔o= .lt:=by cases o<;>simp [ordN]
section
variable {α:Type} {c:α→α→Ordering}
def Srt (c:α→α→Ordering) (l:List α):Prop:=l.Pairwise fun x y=>c x y= .lt
theorem Srt.nil:Srt c []:=List.Pairwise.nil
theorem zue {x:α} {l:List α}:Srt c (x::l)↔(∀y∈l,c x y= .lt)∧Srt c l:=List.pairwise_cons
theorem qqi (h:Ord3 c):∀{l m:List α},Srt c l→Srt c m→(∀x,x∈l↔x∈m)→l=m
 |[],[],_,_,_=>rfl
 |[],y::m,_,_,hx=>by have:=(hx y).2 (List.mem_cons_self ..);cases this
 |x::l,[],_,_,hx=>by have:=(hx x).1 (List.mem_cons_self ..);cases this
 |x::l,y::m,hl,hm,hx=>by
  obtain ⟨hl1,hl2⟩:=zue.1 hl;obtain ⟨hm1,hm2⟩:=zue.1 hm;have e:x=y:=by
   rcases List.mem_cons.1 ((hx x).1 (List.mem_cons_self ..)) with e|h1
   ·exact e
   ·rcases List.mem_cons.1 ((hx y).2 (List.mem_cons_self ..)) with e|h2
    ·exact e.symm
    ·exact absurd (hl1 y h2) (h.asym (hm1 x h1))
  subst e;rw [qqi h hl2 hm2 fun z=>⟨fun hz=> ?_,fun hz=> ?_⟩]
  ·rcases List.mem_cons.1 ((hx z).1 (List.mem_cons_of_mem _ hz)) with e|h1
   ·rw [e] at hz;exact absurd (hl1 x hz) h.irr
   ·exact h1
  ·rcases List.mem_cons.1 ((hx z).2 (List.mem_cons_of_mem _ hz)) with e|h1
   ·rw [e] at hz;exact absurd (hm1 x hz) h.irr
   ·exact h1
def ins (c:α→α→Ordering) (x:α):List α→List α
 |[]=>[x]
 |y::r=>match c x y with
  | .lt=>x::y::r
  | .eq=>y::r
  | .gt=>y::ins c x r
def canon (c:α→α→Ordering) (l:List α):List α:=l.foldr (ins c) []
theorem ykr (h:Ord3 c) {x z:α}:∀{l:List α},z∈ins c x l↔z=x∨z∈l
 |[]=>by simp [ins]
 |y::r=>by
  unfold ins;split
  ·simp
  ·rename_i he;rw [h.eq] at he;subst he;simp
  ·rw [List.mem_cons,ykr h,List.mem_cons];constructor
   ·rintro (h|h|h)<;>simp [h]
   ·rintro (h|h|h)<;>simp [h]
theorem yss (h:Ord3 c) {x:α}:∀{l:List α},Srt c l→Srt c (ins c x l)
 |[],_=>zue.2 ⟨by simp,.nil⟩
 |y::r,hl=>by
  obtain ⟨h1,h2⟩:=zue.1 hl;unfold ins;split
  ·rename_i he;exact zue.2 ⟨fun z hz=>by
    rcases List.mem_cons.1 hz with rfl|hz
    ·exact he
    ·exact h.tr _ _ _ he (h1 z hz),hl⟩
  ·exact hl
  ·rename_i he;refine zue.2 ⟨fun z hz=> ?_,yss h h2⟩;rcases (ykr h).1 hz with rfl|hz
   ·exact h.gt.1 he
   ·exact h1 z hz
theorem zss (h:Ord3 c):∀(l:List α),Srt c (canon c l)
 |[]=>.nil
 |x::l=>yss h (zss h l)
theorem zdm (h:Ord3 c) {z:α}:∀{l:List α},z∈canon c l↔z∈l
 |[]=>by simp [canon]
 |x::l=>by show z∈ins c x (canon c l)↔_;rw [ykr h,zdm h,List.mem_cons]
theorem que (h:Ord3 c) {l m:List α} (hm:Srt c m) (hx:∀x,x∈m↔x∈l):m=canon c l:=
 qqi h hm (zss h l) fun x=>by rw [zdm h,hx]
theorem yid (h:Ord3 c) {l:List α} (hl:Srt c l):canon c l=l:=(que h hl fun _=>Iff.rfl).symm
theorem qjg (x:α):∀(l:List α),(ins c x l).length≤l.length+1
 |[]=>by simp [ins]
 |y::r=>by
  unfold ins;split
  ·simp
  ·simp
  ·have:=qjg x r;simp;omega
theorem zao:∀(l:List α),(canon c l).length≤l.length
 |[]=>Nat.le_refl _
 |x::l=>by have h1:=qjg (c:=c) x (canon c l);have h2:=zao l;show (ins c x (canon c l)).length≤_;simp only [List.length_cons];omega
theorem qkd (h:Ord3 c) {ef:α→α→Bool} (hef:∀x y,ef x y=decide (c x y= .eq)):∀(p:α) (l:List α),(∀y∈l,¬c y p= .lt)→l.Pairwise (fun x y=>¬c y x= .lt)→
 Srt c (zcv ef p l)∧(∀y∈zcv ef p l,c p y= .lt)∧(∀z,z=p∨z∈zcv ef p l↔z=p∨z∈l)
 |p,[],_,_=>⟨.nil,by simp [zcv],by simp [zcv]⟩
 |p,y::r,h1,h2=>by
  obtain ⟨h3,h4⟩:=List.pairwise_cons.1 h2;obtain ⟨i1,i2,i3⟩:=qkd h hef y r h3 h4;unfold zcv;rw [hef];by_cases e:c y p= .eq
  ·rw [decide_eq_true e,cond_true];rw [h.eq] at e;subst e;exact ⟨i1,i2,fun z=>by rw [i3];simp⟩
  ·rw [decide_eq_false e,cond_false];have hlt:c p y= .lt:=by
    have h5:=h1 y (List.mem_cons_self ..);rw [←h.gt];cases hc:c y p with
    |lt=>exact absurd hc h5
    |eq=>exact absurd hc e
    |gt=>rfl
   refine ⟨zue.2 ⟨i2,i1⟩,fun z hz=> ?_,fun z=> ?_⟩
   ·rcases List.mem_cons.1 hz with rfl|hz
    ·exact hlt
    ·exact h.tr _ _ _ hlt (i2 z hz)
   ·simp only [List.mem_cons];constructor
    ·rintro (hz|hz|hz)
     ·exact .inl hz
     ·exact .inr (.inl hz)
     ·rcases (i3 z).1 (.inr hz) with hz|hz
      ·exact .inr (.inl hz)
      ·exact .inr (.inr hz)
    ·rintro (hz|hz|hz)
     ·exact .inl hz
     ·exact .inr (.inl hz)
     ·rcases (i3 z).2 (.inr hz) with hz|hz
      ·exact .inr (.inl hz)
      ·exact .inr (.inr hz)
theorem qwu (h:Ord3 c) {ef:α→α→Bool} (hef:∀x y,ef x y=decide (c x y= .eq)) {l m:List α} (hl:l.Pairwise (fun x y=>¬c y x= .lt)) (hm:∀x,x∈l↔x∈m):zaf ef l=canon c m:=by
 cases l with
 |nil=>exact que h .nil hm
 |cons x r=>
  obtain ⟨h3,h4⟩:=List.pairwise_cons.1 hl;obtain ⟨i1,i2,i3⟩:=qkd h hef x r h3 h4;refine que h (zue.2 ⟨i2,i1⟩) fun z=> ?_
  show z∈x::zcv ef x r↔z∈m;rw [List.mem_cons,i3,←List.mem_cons,hm]
end
theorem qph:∀(u:Ty) (x:u.den),eqT u x x=true
 | .bool,x=>by simp [eqT]
 | .int _,x=>by simp [eqT]
 | .str,x=>by simp [eqT]
 | .fn,x=>Nat.beq_refl x
 | .slice _ t,xs=>by
   simp only [eqT,Nat.beq_refl,Bool.true_and,List.all_eq_true];intro p hp;have:∀(l:List t.den),∀p∈l.zip l,p.1=p.2:=fun l=>by
    induction l with
    |nil=>simp
    |cons y l ih=>
     intro p hp;rcases List.mem_cons.1 hp with rfl|hp
     ·rfl
     ·exact ih p hp
   have e:=this xs p hp;rw [←e];exact qph t p.1
 | .pair a b,x=>by simp only [eqT,qph a,qph b,Bool.and_self]
theorem yqg {u:Ty} {c:u.den→u.den→Ordering} (h:Ord3 c) (xs:List u.den):ygp u (fun x y=>some (ordN (c x y))) xs=true:=by
 have hl:∀x y,ltO (fun x y=>some (ordN (c x y))) x y=decide (c x y= .lt):=fun x y=>by unfold ltO;exact decide_eq_decide.2 yva
 unfold ygp;rw [List.all_eq_true];intro x hx;rw [hl,decide_eq_false h.irr,Bool.not_false,Bool.true_and,List.all_eq_true];intro y hy;rw [Option.isSome_some,Bool.true_and,hl,hl,Bool.and_eq_true];refine ⟨?_,?_⟩
 ·cases hc:c x y with
  |lt=>simp
  |eq=>rw [h.eq] at hc;subst hc;simp [qph]
  |gt=>rw [h.gt] at hc;simp [hc]
 ·rw [List.all_eq_true];intro z hz;rw [hl,hl,Bool.and_eq_true];constructor
  ·by_cases h1:c x y= .lt
   ·by_cases h2:c y z= .lt
    ·simp [h1,h2,h.tr _ _ _ h1 h2]
    ·simp [h2]
   ·simp [h1]
  ·by_cases h3:c x z= .lt
   ·cases h1:c x y with
    |lt=>simp
    |eq=>rw [h.eq] at h1;subst h1;simp [h3]
    |gt=>rw [h.gt] at h1;simp [h.tr _ _ _ h1 h3]
   ·simp [h3]
theorem qbc {u:Ty} {c:u.den→u.den→Ordering} (h:Ord3 c) {cf:u.den→u.den→Option Int} {eq:u.den→u.den→Option Bool} {xs:List u.den} (hlen:xs.length≤4611686018427387903)
 (hcf:∀x∈xs,∀y∈xs,cf x y=some (ordN (c x y))) (heq:∀x∈xs,∀y∈xs,eq x y=some (decide (c x y= .eq))):(zly u cf xs).bind (zdg eq)=some (canon c xs):=by
 rw [qbd hcf];unfold zly;rw [decide_eq_true hlen,yqg h,Bool.and_self,cond_true,Option.bind_some];have hmem:∀x,x∈xs.mergeSort (fun x y=> !ltO (fun x y=>some (ordN (c x y))) y x)↔x∈xs:=fun x=>List.mem_mergeSort
 rw [qda (eq':=fun x y=>some (decide (c x y= .eq))) fun x hx y hy=>heq x ((hmem x).1 hx) y ((hmem y).1 hy)];unfold zdg;have hall:∀l:List u.den,(l.all fun x=>l.all fun y=>((some (decide (c x y= .eq)):Option Bool)).isSome)=true:=fun l=>by rw [List.all_eq_true];intro x _;rw [List.all_eq_true];intro y _;rfl
 rw [hall,cond_true];show some (zaf (fun x y=>decide (c x y= .eq)) _)=_;rw [qwu (m:=xs) h (fun x y=>rfl) ?_ hmem];have hle:∀x y,(!ltO (fun x y=>some (ordN (c x y))) y x)=true↔¬c y x= .lt:=fun x y=>by unfold ltO;simp [yva]
 refine List.Pairwise.imp (fun {a b} h1=>(hle a b).1 h1) (List.pairwise_mergeSort (fun a b d h1 h2=> ?_) (fun a b=> ?_) xs)
 ·rw [hle] at*;intro h3;cases hab:c b a with
  |lt=>exact h1 hab
  |eq=>rw [h.eq] at hab;rw [hab] at h2;exact h2 h3
  |gt=>rw [h.gt] at hab;exact h2 (h.tr _ _ _ h3 hab)
 ·rw [Bool.or_eq_true,hle,hle];by_cases h3:c b a= .lt
  ·exact .inr (h.asym h3)
  ·exact .inl h3
end Go.Rd
namespace Go.Proofs.YtjolkdjkhekbnaaGreatDoor.Sv
open Go Go.Sv Go.Rd
theorem xkb [Dfr] (t u:Nd):((t.1==u.1)&&((t.2.1.toList==u.2.1.toList)&&(t.2.2==u.2.2)))=decide (t=u):=by have h:=xkw t.2.1 u.2.1;unfold bq at h;rw [h];obtain ⟨a,b,c⟩:=t;obtain ⟨a',b',c'⟩:=u;simp only [Prod.mk.injEq];by_cases h1:a=a'<;>by_cases h2:b=b'<;>by_cases h3:c=c'<;>simp [h1,h2,h3]
theorem xhr [Dfr] (t u:Mv):((t.1==u.1)&&(t.2==u.2))=decide (t=u):=by obtain ⟨a,b⟩:=t;obtain ⟨a',b'⟩:=u;simp only [Prod.mk.injEq];by_cases h1:a=a'<;>by_cases h2:b=b'<;>simp [h1,h2]
theorem str_eq [Dfr] (t u:ByteArray):(t.toList==u.toList)=decide (t=u):=xkw t u
theorem int_eq [Dfr] (t u:Int):(t==u)=decide (t=u):=by by_cases h:t=u<;>simp [h]
def zdb {α:Type}:List (List α)→Nat
 |[]=>0
 |x::r=>x.length+zdb r
theorem zvd [Dfr] {α:Type}:∀(l:List (List α)),zdb l=l.flatten.length
 |[]=>rfl
 |x::r=>by simp [zdb,zvd r]
theorem znk [Dfr] (xs:List Nd) (h:xs.length≤1000000000):zez xs=some xs:=by rw [zvm];unfold zem;rw [room (show xs.length*32≤140737488355328 by omega)];rfl
theorem zyd [Dfr] (n:Nat) (hn:n≤1000000000):zki () (n:Int)=some []:=by
 rw [zws];have hw:w64 ((n:Int)-0)=(n:Int):=by rw [Int.sub_zero];exact qyy (by omega)
 have h1:decide ((n:Int)<0)=false:=decide_eq_false (by omega);have hr:zai n 32=true:=room (by omega);have h3:decide (0≤(n:Int))=true:=decide_eq_true (by omega);simp only [hw,h1,cond_false,Int.toNat_natCast,hr,h3,Bool.and_self,cond_true];by_cases h0:n=0
 ·subst h0;rfl
 ·have h2:decide ((n:Int)>0)=true:=decide_eq_true (by omega);have hc:zbe 0 0 n=true:=by unfold zbe;simp
  simp [h2,hc,cut]
theorem zkn [Dfr] (xs:List (List Nd)) (hx:zdb xs≤1000000000) (hn:xs.length≤1000000000):∀(r:List (List Nd)) (i acc:Nat),xs.drop i=r→acc+zdb r≤1000000000→zey xs (acc:Int) xs (xs.length:Int) (i:Int)=some (0,(xs,((acc+zdb r:Nat):Int)))
 |[],i,acc,h,ha=>by obtain ⟨h1,h2⟩:=drop_nil h;rw [zjj];simp only [h2,cond_false,zdb,Nat.add_zero]
 |x::r,i,acc,h,ha=>by
  obtain ⟨h1,h2,h3,h4,h5,h6⟩:=zae h;simp only [zdb] at ha;have hw:w64 ((acc:Int)+(x.length:Int))=((acc+x.length:Nat):Int):=by rw [show (acc:Int)+(x.length:Int)=((acc+x.length:Nat):Int) by omega];exact qyy (by omega)
  have h7:decide (((acc+x.length:Nat):Int)<0)=false:=decide_eq_false (by omega);rw [zjj];simp only [h2,h3,h4,hw,h7,cond_true,cond_false,zbj (show i<9223372036854775807 by omega),zkn xs hx hn r (i+1) (acc+x.length) h5 (by omega),zdb,Nat.add_assoc]
theorem zkm [Dfr] (xs:List (List Nd)) (hn:xs.length≤1000000000):∀(r:List (List Nd)) (i:Nat) (acc:List Nd),xs.drop i=r→acc.length+zdb r≤1000000000→zex acc xs (xs.length:Int) (i:Int)=some (0,acc++r.flatten)
 |[],i,acc,h,ha=>by obtain ⟨h1,h2⟩:=drop_nil h;rw [zji];simp only [h2,cond_false,List.flatten_nil,List.append_nil]
 |x::r,i,acc,h,ha=>by obtain ⟨h1,h2,h3,h4,h5,h6⟩:=zae h;simp only [zdb] at ha;rw [zji];simp only [h2,h3,h4,room (show (acc.length+x.length)*32≤140737488355328 by omega),cond_true,zbj (show i<9223372036854775807 by omega),zkm xs hn r (i+1) (acc++x) h5 (by rw [List.length_append];omega),List.flatten_cons,List.append_assoc]
theorem zvk [Dfr] (xs:List (List Nd)) (hx:zdb xs≤1000000000) (hn:xs.length≤1000000000):ziz xs=some xs.flatten:=by rw [ztw];have h0:=zkn xs hx hn xs 0 0 rfl (by omega);have h2:=zkm xs hn xs 0 [] rfl (by simpa using hx);simp only [Int.natCast_zero,Nat.zero_add] at h0 h2;simp only [h0,Option.bind_some,zyd _ hx,h2,List.nil_append]
theorem zlr [Dfr] (xs ys:List Nd) (hx:xs.length≤4611686018427387904) (hl:xs.length=ys.length) (b:Bool):∀(r:List Nd) (i:Nat),xs.drop i=r→zfg xs ys b (xs.length:Int) (i:Int)=some (if r=ys.drop i then (0,b) else (1,false))
 |[],i,h=>by rw [zka];obtain ⟨h1,h2⟩:=drop_nil h;simp only [h2,cond_false,List.drop_eq_nil_of_le (show ys.length≤i by omega),if_true]
 |x::r,i,h=>by
  rw [zka];obtain ⟨h1,h2,h3,h4,h5,h6⟩:=zae h;cases hy:ys.drop i with
  |nil=>have:=List.drop_eq_nil_iff.1 hy;omega
  |cons y s=>
   obtain ⟨k1,k2,k3,k4,k5,k6⟩:=zae hy;simp only [h2,h3,h4,k3,k4,cond_true,xkb,zbj (show i<9223372036854775807 by omega),zlr xs ys hx hl b r (i+1) h5,k5];by_cases e:x=y
   ·simp [e]
   ·simp [e]
theorem zwu [Dfr] (xs ys:List Nd) (hx:xs.length≤4611686018427387904):zjx xs ys=some (decide (xs=ys)):=by
 rw [zvi];by_cases hl:xs.length=ys.length
 ·have h1:((xs.length:Int) != (ys.length:Int))=false:=by simp [hl]
  have:=zlr xs ys hx hl false xs 0 rfl;simp only [Int.natCast_zero,List.drop_zero] at this;simp only [h1,cond_false,this,Option.bind_some];by_cases e:xs=ys<;>simp [e,Nat.beq]
 ·have h1:((xs.length:Int) != (ys.length:Int))=true:=by simp;omega
  have h2:xs≠ys:=fun e=>hl (by rw [e])
  simp [h1,h2]
theorem zil [Dfr] (xs:List Nd) (f:FnV) (p:Nd→Bool) (b:Int) (hx:xs.length≤4611686018427387904) (hp:∀x∈xs,dyn E f [.agg [.int .i64 x.1,.str x.2.1,.int .i64 x.2.2]] .bool=some (p x)):∀(r:List Nd) (i:Nat),xs.drop i=r→∃n:Int×Int,zdt xs f b (xs.length:Int) (i:Int)=some (if r.any p then (1,n.1) else (0,b))∧0≤n.1
 |[],i,h=>by obtain ⟨h1,h2⟩:=drop_nil h;refine ⟨(0,0),?_,Int.le_refl _⟩;rw [zeu];simp only [h2,cond_false];simp
 |x::r,i,h=>by
  obtain ⟨h1,h2,h3,h4,h5,h6⟩:=zae h;obtain ⟨n,hn,hn0⟩:=zil xs f p b hx hp r (i+1) h5;have hxm:x∈xs:=by
   have:x∈xs.drop i:=by rw [h];exact List.mem_cons_self ..
   exact List.mem_of_mem_drop this
  have hpx:=hp x hxm;cases e:p x with
  |true=>refine ⟨((i:Int),0),?_,by simp⟩;rw [zeu];simp only [h2,h3,h4,hpx,e,cond_true,Option.bind_some,List.any_cons,Bool.true_or,if_true]
  |false=>refine ⟨n,?_,hn0⟩;rw [zeu];simp only [h2,h3,h4,hpx,e,cond_true,cond_false,Option.bind_some,List.any_cons,Bool.false_or,zbj (show i<9223372036854775807 by omega),hn]
theorem zot [Dfr] (xs:List Nd) (f:FnV) (p:Nd→Bool) (hx:xs.length≤4611686018427387904) (hp:∀x∈xs,dyn E f [.agg [.int .i64 x.1,.str x.2.1,.int .i64 x.2.2]] .bool=some (p x)):zgc xs f=some (xs.any p):=by
 obtain ⟨n,hn,hn0⟩:=zil xs f p 0 hx hp xs 0 rfl;rw [Int.natCast_zero] at hn;rw [zol,zqo];simp only [hn,Option.bind_some];cases e:xs.any p with
 |true=>simp [Nat.beq,hn0]
 |false=>simp [Nat.beq]
theorem zop [Dfr] (xs:List ByteArray) (h:xs.length≤1000000000):zhw xs=some xs:=by rw [zyh];unfold zbz;rw [room (show xs.length*16≤140737488355328 by omega)];rfl
theorem qbe [Dfr] (n:Nat) (hn:n≤1000000000):zms () (n:Int)=some []:=by
 rw [qam];have hw:w64 ((n:Int)-0)=(n:Int):=by rw [Int.sub_zero];exact qyy (by omega)
 have h1:decide ((n:Int)<0)=false:=decide_eq_false (by omega);have hr:zai n 16=true:=room (by omega);have h3:decide (0≤(n:Int))=true:=decide_eq_true (by omega);simp only [hw,h1,cond_false,Int.toNat_natCast,hr,h3,Bool.and_self,cond_true];by_cases h0:n=0
 ·subst h0;rfl
 ·have h2:decide ((n:Int)>0)=true:=decide_eq_true (by omega);have hc:zbe 0 0 n=true:=by unfold zbe;simp
  simp [h2,hc,cut]
theorem zmb [Dfr] (xs:List (List ByteArray)) (hx:zdb xs≤1000000000) (hn:xs.length≤1000000000):∀(r:List (List ByteArray)) (i acc:Nat),xs.drop i=r→acc+zdb r≤1000000000→zfy xs (acc:Int) xs (xs.length:Int) (i:Int)=some (0,(xs,((acc+zdb r:Nat):Int)))
 |[],i,acc,h,ha=>by obtain ⟨h1,h2⟩:=drop_nil h;rw [zkk];simp only [h2,cond_false,zdb,Nat.add_zero]
 |x::r,i,acc,h,ha=>by
  obtain ⟨h1,h2,h3,h4,h5,h6⟩:=zae h;simp only [zdb] at ha;have hw:w64 ((acc:Int)+(x.length:Int))=((acc+x.length:Nat):Int):=by rw [show (acc:Int)+(x.length:Int)=((acc+x.length:Nat):Int) by omega];exact qyy (by omega)
  have h7:decide (((acc+x.length:Nat):Int)<0)=false:=decide_eq_false (by omega);rw [zkk];simp only [h2,h3,h4,hw,h7,cond_true,cond_false,zbj (show i<9223372036854775807 by omega),zmb xs hx hn r (i+1) (acc+x.length) h5 (by omega),zdb,Nat.add_assoc]
theorem zma [Dfr] (xs:List (List ByteArray)) (hn:xs.length≤1000000000):∀(r:List (List ByteArray)) (i:Nat) (acc:List ByteArray),xs.drop i=r→acc.length+zdb r≤1000000000→zfx acc xs (xs.length:Int) (i:Int)=some (0,acc++r.flatten)
 |[],i,acc,h,ha=>by obtain ⟨h1,h2⟩:=drop_nil h;rw [zkj];simp only [h2,cond_false,List.flatten_nil,List.append_nil]
 |x::r,i,acc,h,ha=>by obtain ⟨h1,h2,h3,h4,h5,h6⟩:=zae h;simp only [zdb] at ha;rw [zkj];simp only [h2,h3,h4,room (show (acc.length+x.length)*16≤140737488355328 by omega),cond_true,zbj (show i<9223372036854775807 by omega),zma xs hn r (i+1) (acc++x) h5 (by rw [List.length_append];omega),List.flatten_cons,List.append_assoc]
theorem zyg [Dfr] (xs:List (List ByteArray)) (hx:zdb xs≤1000000000) (hn:xs.length≤1000000000):zkl xs=some xs.flatten:=by rw [zwv];have h0:=zmb xs hx hn xs 0 0 rfl (by omega);have h2:=zma xs hn xs 0 [] rfl (by simpa using hx);simp only [Int.natCast_zero,Nat.zero_add] at h0 h2;simp only [h0,Option.bind_some,qbe _ hx,h2,List.nil_append]
theorem zni [Dfr] (xs ys:List ByteArray) (hx:xs.length≤4611686018427387904) (hl:xs.length=ys.length) (b:Bool):∀(r:List ByteArray) (i:Nat),xs.drop i=r→zgi xs ys b (xs.length:Int) (i:Int)=some (if r=ys.drop i then (0,b) else (1,false))
 |[],i,h=>by rw [zlq];obtain ⟨h1,h2⟩:=drop_nil h;simp only [h2,cond_false,List.drop_eq_nil_of_le (show ys.length≤i by omega),if_true]
 |x::r,i,h=>by
  rw [zlq];obtain ⟨h1,h2,h3,h4,h5,h6⟩:=zae h;cases hy:ys.drop i with
  |nil=>have:=List.drop_eq_nil_iff.1 hy;omega
  |cons y s=>
   obtain ⟨k1,k2,k3,k4,k5,k6⟩:=zae hy;simp only [h2,h3,h4,k3,k4,cond_true,str_eq,zbj (show i<9223372036854775807 by omega),zni xs ys hx hl b r (i+1) h5,k5];by_cases e:x=y
   ·simp [e]
   ·simp [e]
theorem qan [Dfr] (xs ys:List ByteArray) (hx:xs.length≤4611686018427387904):zlv xs ys=some (decide (xs=ys)):=by
 rw [zye];by_cases hl:xs.length=ys.length
 ·have h1:((xs.length:Int) != (ys.length:Int))=false:=by simp [hl]
  have:=zni xs ys hx hl false xs 0 rfl;simp only [Int.natCast_zero,List.drop_zero] at this;simp only [h1,cond_false,this,Option.bind_some];by_cases e:xs=ys<;>simp [e,Nat.beq]
 ·have h1:((xs.length:Int) != (ys.length:Int))=true:=by simp;omega
  have h2:xs≠ys:=fun e=>hl (by rw [e])
  simp [h1,h2]
theorem znh [Dfr] (xs:List ByteArray) (a:ByteArray) (b:Int) (hx:xs.length≤4611686018427387904):∀(r:List ByteArray) (i:Nat),xs.drop i=r→∃n:Int×Int,zgg xs a b (xs.length:Int) (i:Int)=some (if a∈r then (1,n.1) else (0,b))∧0≤n.1
 |[],i,h=>by obtain ⟨h1,h2⟩:=drop_nil h;refine ⟨(0,0),?_,Int.le_refl _⟩;rw [zgt];simp only [h2,cond_false];simp
 |x::r,i,h=>by
  obtain ⟨h1,h2,h3,h4,h5,h6⟩:=zae h;obtain ⟨n,hn,hn0⟩:=znh xs a b hx r (i+1) h5;by_cases e:a=x
  ·refine ⟨((i:Int),0),?_,by simp⟩;rw [zgt];simp only [h2,h3,h4,cond_true,str_eq,e];simp
  ·refine ⟨n,?_,hn0⟩;rw [zgt];simp only [h2,h3,h4,cond_true,str_eq,zbj (show i<9223372036854775807 by omega),hn,decide_eq_false e,decide_eq_false (Ne.symm e),cond_false];simp [e]
theorem zvj [Dfr] (xs:List ByteArray) (a:ByteArray) (hx:xs.length≤4611686018427387904):ziy xs a=some (decide (a∈xs)):=by
 obtain ⟨n,hn,hn0⟩:=znh xs a 0 hx xs 0 rfl;rw [Int.natCast_zero] at hn;rw [ztt,zyc];simp only [hn,Option.bind_some];by_cases e:a∈xs
 ·simp [e,Nat.beq,hn0]
 ·simp [e,Nat.beq]
theorem zpy [Dfr] (xs:List Int) (a:Int) (b:Int) (hx:xs.length≤4611686018427387904):∀(r:List Int) (i:Nat),xs.drop i=r→∃n:Int×Int,zhu xs a b (xs.length:Int) (i:Int)=some (if a∈r then (1,n.1) else (0,b))∧0≤n.1
 |[],i,h=>by obtain ⟨h1,h2⟩:=drop_nil h;refine ⟨(0,0),?_,Int.le_refl _⟩;rw [zix];simp only [h2,cond_false];simp
 |x::r,i,h=>by
  obtain ⟨h1,h2,h3,h4,h5,h6⟩:=zae h;obtain ⟨n,hn,hn0⟩:=zpy xs a b hx r (i+1) h5;by_cases e:a=x
  ·refine ⟨((i:Int),0),?_,by simp⟩;rw [zix];simp only [h2,h3,h4,cond_true,int_eq,e];simp
  ·refine ⟨n,?_,hn0⟩;rw [zix];simp only [h2,h3,h4,cond_true,int_eq,zbj (show i<9223372036854775807 by omega),hn,decide_eq_false e,decide_eq_false (Ne.symm e),cond_false];simp [e]
theorem zoo [Dfr] (xs:List Int) (a:Int) (hx:xs.length≤4611686018427387904):zhv xs a=some (decide (a∈xs)):=by
 obtain ⟨n,hn,hn0⟩:=zpy xs a 0 hx xs 0 rfl;rw [Int.natCast_zero] at hn;rw [zyf,qee];simp only [hn,Option.bind_some];by_cases e:a∈xs
 ·simp [e,Nat.beq,hn0]
 ·simp [e,Nat.beq]
theorem zlz [Dfr] (xs:List Int) (f:FnV) (p:Int→Bool) (b:Int) (hx:xs.length≤4611686018427387904) (hp:∀x∈xs,dyn E f [.one (.int .i64 x)] .bool=some (p x)):∀(r:List Int) (i:Nat),xs.drop i=r→∃n:Int×Int,zfw xs f b (xs.length:Int) (i:Int)=some (if r.any p then (1,n.1) else (0,b))∧0≤n.1
 |[],i,h=>by obtain ⟨h1,h2⟩:=drop_nil h;refine ⟨(0,0),?_,Int.le_refl _⟩;rw [zgo];simp only [h2,cond_false];simp
 |x::r,i,h=>by
  obtain ⟨h1,h2,h3,h4,h5,h6⟩:=zae h;obtain ⟨n,hn,hn0⟩:=zlz xs f p b hx hp r (i+1) h5;have hxm:x∈xs:=by
   have:x∈xs.drop i:=by rw [h];exact List.mem_cons_self ..
   exact List.mem_of_mem_drop this
  have hpx:=hp x hxm;cases e:p x with
  |true=>refine ⟨((i:Int),0),?_,by simp⟩;rw [zgo];simp only [h2,h3,h4,hpx,e,cond_true,Option.bind_some,List.any_cons,Bool.true_or,if_true]
  |false=>refine ⟨n,?_,hn0⟩;rw [zgo];simp only [h2,h3,h4,hpx,e,cond_true,cond_false,Option.bind_some,List.any_cons,Bool.false_or,zbj (show i<9223372036854775807 by omega),hn]
theorem ztu [Dfr] (xs:List Int) (f:FnV) (p:Int→Bool) (hx:xs.length≤4611686018427387904) (hp:∀x∈xs,dyn E f [.one (.int .i64 x)] .bool=some (p x)):zib xs f=some (xs.any p):=by
 obtain ⟨n,hn,hn0⟩:=zlz xs f p 0 hx hp xs 0 rfl;rw [Int.natCast_zero] at hn;rw [zsx,zwq];simp only [hn,Option.bind_some];cases e:xs.any p with
 |true=>simp [Nat.beq,hn0]
 |false=>simp [Nat.beq]
theorem zlo [Dfr] (xs:List Mv) (a:Mv) (b:Int) (hx:xs.length≤4611686018427387904):∀(r:List Mv) (i:Nat),xs.drop i=r→∃n:Int×Int,zff xs a b (xs.length:Int) (i:Int)=some (if a∈r then (1,n.1) else (0,b))∧0≤n.1
 |[],i,h=>by obtain ⟨h1,h2⟩:=drop_nil h;refine ⟨(0,0),?_,Int.le_refl _⟩;rw [zgh];simp only [h2,cond_false];simp
 |x::r,i,h=>by
  obtain ⟨h1,h2,h3,h4,h5,h6⟩:=zae h;obtain ⟨n,hn,hn0⟩:=zlo xs a b hx r (i+1) h5;by_cases e:a=x
  ·refine ⟨((i:Int),0),?_,by simp⟩;rw [zgh];simp only [h2,h3,h4,cond_true,xhr,e];simp
  ·refine ⟨n,?_,hn0⟩;rw [zgh];simp only [h2,h3,h4,cond_true,xhr,zbj (show i<9223372036854775807 by omega),hn,decide_eq_false e,decide_eq_false (Ne.symm e),cond_false];simp [e]
theorem zsw [Dfr] (xs:List Mv) (a:Mv) (hx:xs.length≤4611686018427387904):zhg xs a=some (decide (a∈xs)):=by
 obtain ⟨n,hn,hn0⟩:=zlo xs a 0 hx xs 0 rfl;rw [Int.natCast_zero] at hn;rw [zrm,zvg];simp only [hn,Option.bind_some];by_cases e:a∈xs
 ·simp [e,Nat.beq,hn0]
 ·simp [e,Nat.beq]
theorem zsz [Dfr] (xs:List Tc) (h:xs.length≤1000000000):zfj xs=some xs:=by rw [zro];unfold zdi;rw [room (show xs.length*32≤140737488355328 by omega)];rfl
theorem zts [Dfr] (n:Nat) (hn:n≤1000000000):zia () (n:Int)=some []:=by
 rw [zsv];have hw:w64 ((n:Int)-0)=(n:Int):=by rw [Int.sub_zero];exact qyy (by omega)
 have h1:decide ((n:Int)<0)=false:=decide_eq_false (by omega);have hr:zai n 32=true:=room (by omega);have h3:decide (0≤(n:Int))=true:=decide_eq_true (by omega);simp only [hw,h1,cond_false,Int.toNat_natCast,hr,h3,Bool.and_self,cond_true];by_cases h0:n=0
 ·subst h0;rfl
 ·have h2:decide ((n:Int)>0)=true:=decide_eq_true (by omega);have hc:zbe 0 0 n=true:=by unfold zbe;simp
  simp [h2,hc,cut]
theorem zin [Dfr] (xs:List (List Tc)) (hx:zdb xs≤1000000000) (hn:xs.length≤1000000000):∀(r:List (List Tc)) (i acc:Nat),xs.drop i=r→acc+zdb r≤1000000000→zdv xs (acc:Int) xs (xs.length:Int) (i:Int)=some (0,(xs,((acc+zdb r:Nat):Int)))
 |[],i,acc,h,ha=>by obtain ⟨h1,h2⟩:=drop_nil h;rw [zhp];simp only [h2,cond_false,zdb,Nat.add_zero]
 |x::r,i,acc,h,ha=>by
  obtain ⟨h1,h2,h3,h4,h5,h6⟩:=zae h;simp only [zdb] at ha;have hw:w64 ((acc:Int)+(x.length:Int))=((acc+x.length:Nat):Int):=by rw [show (acc:Int)+(x.length:Int)=((acc+x.length:Nat):Int) by omega];exact qyy (by omega)
  have h7:decide (((acc+x.length:Nat):Int)<0)=false:=decide_eq_false (by omega);rw [zhp];simp only [h2,h3,h4,hw,h7,cond_true,cond_false,zbj (show i<9223372036854775807 by omega),zin xs hx hn r (i+1) (acc+x.length) h5 (by omega),zdb,Nat.add_assoc]
theorem zim [Dfr] (xs:List (List Tc)) (hn:xs.length≤1000000000):∀(r:List (List Tc)) (i:Nat) (acc:List Tc),xs.drop i=r→acc.length+zdb r≤1000000000→zdu acc xs (xs.length:Int) (i:Int)=some (0,acc++r.flatten)
 |[],i,acc,h,ha=>by obtain ⟨h1,h2⟩:=drop_nil h;rw [zho];simp only [h2,cond_false,List.flatten_nil,List.append_nil]
 |x::r,i,acc,h,ha=>by obtain ⟨h1,h2,h3,h4,h5,h6⟩:=zae h;simp only [zdb] at ha;rw [zho];simp only [h2,h3,h4,room (show (acc.length+x.length)*32≤140737488355328 by omega),cond_true,zbj (show i<9223372036854775807 by omega),zim xs hn r (i+1) (acc++x) h5 (by rw [List.length_append];omega),List.flatten_cons,List.append_assoc]
theorem zrn [Dfr] (xs:List (List Tc)) (hx:zdb xs≤1000000000) (hn:xs.length≤1000000000):zgu xs=some xs.flatten:=by rw [zqp];have h0:=zin xs hx hn xs 0 0 rfl (by omega);have h2:=zim xs hn xs 0 [] rfl (by simpa using hx);simp only [Int.natCast_zero,Nat.zero_add] at h0 h2;simp only [h0,Option.bind_some,zts _ hx,h2,List.nil_append]
theorem zhb [Dfr] (xs:List Tc) (f:FnV) (p:Tc→Bool) (b:Int) (hx:xs.length≤4611686018427387904) (hp:∀x∈xs,dyn E f [.agg [.slice 9 .str x.1 .no,.int .i64 x.2]] .bool=some (p x)):∀(r:List Tc) (i:Nat),xs.drop i=r→∃n:Int×Int,zcm xs f b (xs.length:Int) (i:Int)=some (if r.any p then (1,n.1) else (0,b))∧0≤n.1
 |[],i,h=>by obtain ⟨h1,h2⟩:=drop_nil h;refine ⟨(0,0),?_,Int.le_refl _⟩;rw [zdx];simp only [h2,cond_false];simp
 |x::r,i,h=>by
  obtain ⟨h1,h2,h3,h4,h5,h6⟩:=zae h;obtain ⟨n,hn,hn0⟩:=zhb xs f p b hx hp r (i+1) h5;have hxm:x∈xs:=by
   have:x∈xs.drop i:=by rw [h];exact List.mem_cons_self ..
   exact List.mem_of_mem_drop this
  have hpx:=hp x hxm;cases e:p x with
  |true=>refine ⟨((i:Int),0),?_,by simp⟩;rw [zdx];simp only [h2,h3,h4,hpx,e,cond_true,Option.bind_some,List.any_cons,Bool.true_or,if_true]
  |false=>refine ⟨n,?_,hn0⟩;rw [zdx];simp only [h2,h3,h4,hpx,e,cond_true,cond_false,Option.bind_some,List.any_cons,Bool.false_or,zbj (show i<9223372036854775807 by omega),hn]
theorem znq [Dfr] (xs:List Tc) (f:FnV) (p:Tc→Bool) (hx:xs.length≤4611686018427387904) (hp:∀x∈xs,dyn E f [.agg [.slice 9 .str x.1 .no,.int .i64 x.2]] .bool=some (p x)):zev xs f=some (xs.any p):=by
 obtain ⟨n,hn,hn0⟩:=zhb xs f p 0 hx hp xs 0 rfl;rw [Int.natCast_zero] at hn;rw [zmt,zok];simp only [hn,Option.bind_some];cases e:xs.any p with
 |true=>simp [Nat.beq,hn0]
 |false=>simp [Nat.beq]
theorem zwr [Dfr] (n:Nat) (hn:n≤1000000000):zjw () (n:Int)=some []:=by
 rw [zvh];have hw:w64 ((n:Int)-0)=(n:Int):=by rw [Int.sub_zero];exact qyy (by omega)
 have h1:decide ((n:Int)<0)=false:=decide_eq_false (by omega);have hr:zai n 64=true:=room (by omega);have h3:decide (0≤(n:Int))=true:=decide_eq_true (by omega);simp only [hw,h1,cond_false,Int.toNat_natCast,hr,h3,Bool.and_self,cond_true];by_cases h0:n=0
 ·subst h0;rfl
 ·have h2:decide ((n:Int)>0)=true:=decide_eq_true (by omega);have hc:zbe 0 0 n=true:=by unfold zbe;simp
  simp [h2,hc,cut]
theorem zkc [Dfr] (xs:List (List (Tc×Tc))) (hx:zdb xs≤1000000000) (hn:xs.length≤1000000000):∀(r:List (List (Tc×Tc))) (i acc:Nat),xs.drop i=r→acc+zdb r≤1000000000→zel xs (acc:Int) xs (xs.length:Int) (i:Int)=some (0,(xs,((acc+zdb r:Nat):Int)))
 |[],i,acc,h,ha=>by obtain ⟨h1,h2⟩:=drop_nil h;rw [ziq];simp only [h2,cond_false,zdb,Nat.add_zero]
 |x::r,i,acc,h,ha=>by
  obtain ⟨h1,h2,h3,h4,h5,h6⟩:=zae h;simp only [zdb] at ha;have hw:w64 ((acc:Int)+(x.length:Int))=((acc+x.length:Nat):Int):=by rw [show (acc:Int)+(x.length:Int)=((acc+x.length:Nat):Int) by omega];exact qyy (by omega)
  have h7:decide (((acc+x.length:Nat):Int)<0)=false:=decide_eq_false (by omega);rw [ziq];simp only [h2,h3,h4,hw,h7,cond_true,cond_false,zbj (show i<9223372036854775807 by omega),zkc xs hx hn r (i+1) (acc+x.length) h5 (by omega),zdb,Nat.add_assoc]
theorem zkb [Dfr] (xs:List (List (Tc×Tc))) (hn:xs.length≤1000000000):∀(r:List (List (Tc×Tc))) (i:Nat) (acc:List (Tc×Tc)),xs.drop i=r→acc.length+zdb r≤1000000000→zek acc xs (xs.length:Int) (i:Int)=some (0,acc++r.flatten)
 |[],i,acc,h,ha=>by obtain ⟨h1,h2⟩:=drop_nil h;rw [zio];simp only [h2,cond_false,List.flatten_nil,List.append_nil]
 |x::r,i,acc,h,ha=>by obtain ⟨h1,h2,h3,h4,h5,h6⟩:=zae h;simp only [zdb] at ha;rw [zio];simp only [h2,h3,h4,room (show (acc.length+x.length)*64≤140737488355328 by omega),cond_true,zbj (show i<9223372036854775807 by omega),zkb xs hn r (i+1) (acc++x) h5 (by rw [List.length_append];omega),List.flatten_cons,List.append_assoc]
theorem ztv [Dfr] (xs:List (List (Tc×Tc))) (hx:zdb xs≤1000000000) (hn:xs.length≤1000000000):zic xs=some xs.flatten:=by rw [zsy];have h0:=zkc xs hx hn xs 0 0 rfl (by omega);have h2:=zkb xs hn xs 0 [] rfl (by simpa using hx);simp only [Int.natCast_zero,Nat.zero_add] at h0 h2;simp only [h0,Option.bind_some,zwr _ hx,h2,List.nil_append]
theorem zhz [Dfr] (xs:List (List Nd)) (f:FnV) (p:List Nd→Bool) (b:Int) (hx:xs.length≤4611686018427387904) (hp:∀x∈xs,dyn E f [.one (.slice 68 (.pair (.int .i64) (.pair .str (.int .i64))) x .no)] .bool=some (p x)):∀(r:List (List Nd)) (i:Nat),xs.drop i=r→∃n:Int×Int,zdh xs f b (xs.length:Int) (i:Int)=some (if r.any p then (1,n.1) else (0,b))∧0≤n.1
 |[],i,h=>by obtain ⟨h1,h2⟩:=drop_nil h;refine ⟨(0,0),?_,Int.le_refl _⟩;rw [zej];simp only [h2,cond_false];simp
 |x::r,i,h=>by
  obtain ⟨h1,h2,h3,h4,h5,h6⟩:=zae h;obtain ⟨n,hn,hn0⟩:=zhz xs f p b hx hp r (i+1) h5;have hxm:x∈xs:=by
   have:x∈xs.drop i:=by rw [h];exact List.mem_cons_self ..
   exact List.mem_of_mem_drop this
  have hpx:=hp x hxm;cases e:p x with
  |true=>refine ⟨((i:Int),0),?_,by simp⟩;rw [zej];simp only [h2,h3,h4,hpx,e,cond_true,Option.bind_some,List.any_cons,Bool.true_or,if_true]
  |false=>refine ⟨n,?_,hn0⟩;rw [zej];simp only [h2,h3,h4,hpx,e,cond_true,cond_false,Option.bind_some,List.any_cons,Bool.false_or,zbj (show i<9223372036854775807 by omega),hn]
theorem zom [Dfr] (xs:List (List Nd)) (f:FnV) (p:List Nd→Bool) (hx:xs.length≤4611686018427387904) (hp:∀x∈xs,dyn E f [.one (.slice 68 (.pair (.int .i64) (.pair .str (.int .i64))) x .no)] .bool=some (p x)):zfo xs f=some (xs.any p):=by
 obtain ⟨n,hn,hn0⟩:=zhz xs f p 0 hx hp xs 0 rfl;rw [Int.natCast_zero] at hn;rw [znv,zqa];simp only [hn,Option.bind_some];cases e:xs.any p with
 |true=>simp [Nat.beq,hn0]
 |false=>simp [Nat.beq]
end Go.Proofs.YtjolkdjkhekbnaaGreatDoor.Sv
namespace Go.Rd
open Go Go.Sv
inductive Tm where
 |act (s:ByteArray)
 |skip
 |throw
 |yield
 |over (s:Int)
 |seq (a b:Tm)
 |alt (a b:Tm)
 |par (a b:Tm)
 |hand (a b:Tm)
 |block (a:Tm)
 |pair (a b:Tm)
 |going (a b:Tm)
 |stack (a b:Tm)
 |fin (s:Int) (a:Tm)
 deriving DecidableEq
abbrev nd (k:Int):Nd:=(k,ByteArray.empty,0)
namespace Tm
def t:Tm→T
 |act s=>.n0 (1,s,0)
 |skip=>.n0 (nd 2)
 |throw=>.n0 (nd 3)
 |yield=>.n0 (nd 4)
 |over s=>.n0 (11,ByteArray.empty,s)
 |seq a b=>.n2 (nd 5) a.t b.t
 |alt a b=>.n2 (nd 6) a.t b.t
 |par a b=>.n2 (nd 7) a.t b.t
 |hand a b=>.n2 (nd 8) a.t b.t
 |block a=>.n1 (nd 9) a.t
 |pair a b=>.n2 (nd 10) a.t b.t
 |going a b=>.n2 (nd 12) a.t b.t
 |stack a b=>.n2 (nd 13) a.t b.t
 |fin s a=>.n1 (14,ByteArray.empty,s) a.t
def row (m:Tm):List Nd:=m.t.row
def size (m:Tm):Nat:=m.t.size
theorem t_ok (m:Tm):m.t.ok:=by induction m<;>first|exact (rfl:ar _=_)|exact ⟨rfl,by assumption⟩|exact ⟨rfl,by assumption,by assumption⟩
theorem qal:∀{a b:Tm},a.t=b.t→a=b
 | .act s,m,h=>by cases m<;>simp [t,nd] at h;rw [h]
 | .over s,m,h=>by cases m<;>simp [t,nd] at h;rw [h]
 | .skip,m,h=>by cases m<;>simp [t,nd] at h;rfl
 | .throw,m,h=>by cases m<;>simp [t,nd] at h;rfl
 | .yield,m,h=>by cases m<;>simp [t,nd] at h;rfl
 | .block a,m,h=>by cases m<;>simp [t,nd] at h;rw [qal h]
 | .fin s a,m,h=>by cases m<;>simp [t,nd] at h;rw [h.1,qal h.2]
 | .seq a b,m,h=>by cases m<;>simp [t,nd] at h;rw [qal h.1,qal h.2]
 | .alt a b,m,h=>by cases m<;>simp [t,nd] at h;rw [qal h.1,qal h.2]
 | .par a b,m,h=>by cases m<;>simp [t,nd] at h;rw [qal h.1,qal h.2]
 | .hand a b,m,h=>by cases m<;>simp [t,nd] at h;rw [qal h.1,qal h.2]
 | .pair a b,m,h=>by cases m<;>simp [t,nd] at h;rw [qal h.1,qal h.2]
 | .going a b,m,h=>by cases m<;>simp [t,nd] at h;rw [qal h.1,qal h.2]
 | .stack a b,m,h=>by cases m<;>simp [t,nd] at h;rw [qal h.1,qal h.2]
theorem qkx {a b:Tm} (h:a.row=b.row):a=b:=qal (Go.Rd.qkx a.t_ok b.t_ok h)
theorem zab (m:Tm):m.row.length=m.size:=T.zab _
theorem zdj (m:Tm):0<m.size:=T.zdj _
theorem qxi (m:Tm):m.row≠[]:=T.qxi _
@[simp] theorem row_act (s:ByteArray):(act s).row=[(1,s,0)]:=rfl
@[simp] theorem row_skip:skip.row=[nd 2]:=rfl
@[simp] theorem row_throw:throw.row=[nd 3]:=rfl
@[simp] theorem row_yield:yield.row=[nd 4]:=rfl
@[simp] theorem row_over (s:Int):(over s).row=[(11,ByteArray.empty,s)]:=rfl
theorem yji (a b:Tm):(seq a b).row=nd 5::(a.row++b.row):=rfl
theorem xgs (a b:Tm):(alt a b).row=nd 6::(a.row++b.row):=rfl
theorem yap (a b:Tm):(par a b).row=nd 7::(a.row++b.row):=rfl
theorem yaq (a b:Tm):(hand a b).row=nd 8::(a.row++b.row):=rfl
theorem zxa (a:Tm):(block a).row=nd 9::a.row:=rfl
theorem xal (a b:Tm):(pair a b).row=nd 10::(a.row++b.row):=rfl
theorem qrm (a b:Tm):(going a b).row=nd 12::(a.row++b.row):=rfl
theorem qri (a b:Tm):(stack a b).row=nd 13::(a.row++b.row):=rfl
theorem qrn (s:Int) (a:Tm):(fin s a).row=(14,ByteArray.empty,s)::a.row:=rfl
theorem yta:skip.size=1:=rfl
theorem qig (s:Int):(over s).size=1:=rfl
theorem zbf (a b:Tm):(seq a b).size=a.size+b.size+1:=rfl
theorem zuh (a b:Tm):(alt a b).size=a.size+b.size+1:=rfl
theorem zbv (a b:Tm):(par a b).size=a.size+b.size+1:=rfl
theorem zbk (a b:Tm):(hand a b).size=a.size+b.size+1:=rfl
theorem zav (a:Tm):(block a).size=a.size+1:=rfl
theorem zwx (a b:Tm):(pair a b).size=a.size+b.size+1:=rfl
theorem zca (a b:Tm):(going a b).size=a.size+b.size+1:=rfl
theorem zcx (a b:Tm):(stack a b).size=a.size+b.size+1:=rfl
theorem zcn (s:Int) (a:Tm):(fin s a).size=a.size+1:=rfl
def good (p:ByteArray→Prop) (q:Int→Prop):Tm→Prop
 |act s=>p s
 |skip|throw|yield=>True
 |over s=>q s
 |seq a b|alt a b|par a b|hand a b|pair a b|going a b|stack a b=>a.good p q∧b.good p q
 |block a=>a.good p q
 |fin s a=>q s∧a.good p q
end Tm
def lowB (b:UInt8):Bool:=decide (97≤b.toNat)&&decide (b.toNat≤122)
def ymo:List ByteArray:=[⟨#[115,107,105,112]⟩,⟨#[116,104,114,111,119]⟩,⟨#[121,105,101,108,100]⟩,⟨#[115,107,105,112,112]⟩,⟨#[116,104,114,111,119,119]⟩,⟨#[121,105,101,108,100,100]⟩]
def qoa (s:ByteArray):Bool:=decide (1≤s.size)&&(decide (s.size≤8)&&(s.data.toList.all lowB&& !decide (s∈ymo)))
def right (n:Nd):Bool:=
 if n.1=1 then qoa n.2.1&&decide (n.2.2=0)
 else if n.1=11∨n.1=14 then decide (n.2.1=ByteArray.empty)&&zmc n.2.2
 else (ar n.1).isSome&&(decide (n.2.1=ByteArray.empty)&&decide (n.2.2=0))
def one (l:List Nd):Bool:=match P l with|some (_,[])=>true|_=>false
theorem xhn {t:T} (h:t.ok):one t.row=true:=by unfold one;rw [qfo h]
def whole (l:List Nd):Bool:=l.all right&&(decide (l.length≤200)&&one l)
abbrev Tm.fine (m:Tm):Prop:=m.good (fun s=>qoa s=true) (fun s=>zmc s=true)
theorem ar0 {k:Int} (h:ar k=some 0):k=1∨k=2∨k=3∨k=4∨k=11:=by
 unfold ar at h;by_cases h1:k=1∨k=2∨k=3∨k=4∨k=11
 ·exact h1
 ·rw [if_neg h1] at h;split at h
  ·cases h
  ·split at h<;>cases h
theorem ar1 {k:Int} (h:ar k=some 1):k=9∨k=14:=by
 unfold ar at h;split at h
 ·cases h
 ·by_cases h1:k=9∨k=14
  ·exact h1
  ·rw [if_neg h1] at h;split at h<;>cases h
theorem ar2 {k:Int} (h:ar k=some 2):k=5∨k=6∨k=7∨k=8∨k=10∨k=12∨k=13:=by
 unfold ar at h;split at h
 ·cases h
 ·split at h
  ·cases h
  ·split at h
   ·assumption
   ·cases h
theorem qzm:∀{t:T},t.ok→(∀n∈t.row,right n=true)→∃m:Tm,m.t=t∧m.fine
 | .n0 n,h,hr=>by
   have hn:=hr n (by simp [T.row]);obtain ⟨k,s,z⟩:=n;rcases ar0 h with rfl|rfl|rfl|rfl|rfl
   ·simp only [right,if_true,Bool.and_eq_true,decide_eq_true_eq] at hn;obtain ⟨h1,rfl⟩:=hn;exact ⟨.act s,rfl,h1⟩
   ·simp [right,ar] at hn;obtain ⟨rfl,rfl⟩:=hn;exact ⟨.skip,rfl,trivial⟩
   ·simp [right,ar] at hn;obtain ⟨rfl,rfl⟩:=hn;exact ⟨.throw,rfl,trivial⟩
   ·simp [right,ar] at hn;obtain ⟨rfl,rfl⟩:=hn;exact ⟨.yield,rfl,trivial⟩
   ·simp [right,ar] at hn;obtain ⟨rfl,h1⟩:=hn;exact ⟨.over z,rfl,h1⟩
 | .n1 n a,h,hr=>by
   have hn:=hr n (by simp [T.row]);obtain ⟨m,rfl,hm⟩:=qzm (t:=a) h.2 fun x hx=>hr x (by simp [T.row,hx])
   obtain ⟨k,s,z⟩:=n;rcases ar1 h.1 with rfl|rfl
   ·simp [right,ar] at hn;obtain ⟨rfl,rfl⟩:=hn;exact ⟨.block m,rfl,hm⟩
   ·simp [right,ar] at hn;obtain ⟨rfl,h1⟩:=hn;exact ⟨.fin z m,rfl,h1,hm⟩
 | .n2 n a b,h,hr=>by
   have hn:=hr n (by simp [T.row]);obtain ⟨m,rfl,hm⟩:=qzm (t:=a) h.2.1 fun x hx=>hr x (by simp [T.row,hx])
   obtain ⟨m',rfl,hm'⟩:=qzm (t:=b) h.2.2 fun x hx=>hr x (by simp [T.row,hx])
   obtain ⟨k,s,z⟩:=n;rcases ar2 h.1 with rfl|rfl|rfl|rfl|rfl|rfl|rfl<;>(simp [right,ar] at hn;obtain ⟨rfl,rfl⟩:=hn)
   ·exact ⟨.seq m m',rfl,hm,hm'⟩
   ·exact ⟨.alt m m',rfl,hm,hm'⟩
   ·exact ⟨.par m m',rfl,hm,hm'⟩
   ·exact ⟨.hand m m',rfl,hm,hm'⟩
   ·exact ⟨.pair m m',rfl,hm,hm'⟩
   ·exact ⟨.going m m',rfl,hm,hm'⟩
   ·exact ⟨.stack m m',rfl,hm,hm'⟩
theorem zlh:∀{m:Tm},m.fine→∀n∈m.row,right n=true:=by
 intro m
 induction m with
 |act s=>intro h n hn;rw [Tm.row_act,List.mem_singleton] at hn;subst hn;simp [right];exact h
 |skip=>intro h n hn;rw [Tm.row_skip,List.mem_singleton] at hn;subst hn;simp [right,ar]
 |throw=>intro h n hn;rw [Tm.row_throw,List.mem_singleton] at hn;subst hn;simp [right,ar]
 |yield=>intro h n hn;rw [Tm.row_yield,List.mem_singleton] at hn;subst hn;simp [right,ar]
 |over s=>intro h n hn;rw [Tm.row_over,List.mem_singleton] at hn;subst hn;simp [right,ar];exact h
 |block a ih=>
  intro h n hn;rw [Tm.zxa] at hn;rcases List.mem_cons.1 hn with rfl|hn
  ·simp [right,ar]
  ·exact ih h n hn
 |fin s a ih=>
  intro h n hn;rw [Tm.qrn] at hn;rcases List.mem_cons.1 hn with rfl|hn
  ·simp [right,ar];exact h.1
  ·exact ih h.2 n hn
 |seq a b iha ihb|alt a b iha ihb|par a b iha ihb|hand a b iha ihb|pair a b iha ihb|going a b iha ihb|stack a b iha ihb=>
  intro h n hn;rcases List.mem_cons.1 hn with rfl|hn
  ·simp [right,ar]
  ·rcases List.mem_append.1 hn with hn|hn
   ·exact iha h.1 n hn
   ·exact ihb h.2 n hn
theorem qhs {l:List Nd}:whole l=true↔∃m:Tm,l=m.row∧m.fine∧m.size≤200:=by
 constructor
 ·intro h;simp only [whole,Bool.and_eq_true,decide_eq_true_eq,List.all_eq_true] at h;obtain ⟨h1,h2,h3⟩:=h;unfold one at h3;split at h3
  ·rename_i t hp;obtain ⟨k1,k2⟩:=zxu hp;rw [List.append_nil] at k2;subst k2;obtain ⟨m,rfl,hm⟩:=qzm k1 h1;exact ⟨m,rfl,hm,by rw [T.zab] at h2;exact h2⟩
  ·cases h3
 ·rintro ⟨m,rfl,hm,hs⟩;have hP:one m.row=true:=xhn m.t_ok;simp only [whole,Bool.and_eq_true,decide_eq_true_eq,List.all_eq_true,hP];exact ⟨fun n hn=>zlh hm n hn,by rw [Tm.zab];exact hs,trivial⟩
namespace Tm
mutual
def pl:Tm→Bool
 |act _|skip|throw|yield=>true
 |seq a b|alt a b|par a b|hand a b=>a.pl&&b.pl
 |block a=>a.pa
 |_=>false
def pa:Tm→Bool
 |pair a b=>a.pl&&b.pl
 |seq a b|alt a b|par a b=>a.pa&&b.pa
 |_=>false
end
mutual
def po:Tm→Bool
 |act _|skip|throw|yield|over _=>true
 |seq a b|hand a b=>a.po&&b.pl
 |alt a b=>a.pl&&b.pl
 |par a b=>a.po&&b.po
 |block a=>a.qo
 |_=>false
def qo:Tm→Bool
 |pair a b=>a.pl&&b.pl
 |alt a b=>a.pa&&b.pa
 |going a b=>a.po&&b.pl
 |seq a b=>a.qo&&b.pa
 |par a b=>a.qo&&b.qo
 |stack a b=>a.qo&&b.pl
 |fin _ a=>a.pl
 |_=>false
end
theorem qsd:∀m:Tm,(m.pl=true→m.po=true)∧(m.pa=true→m.qo=true):=by
 intro m
 induction m with
 |act s|skip|throw|yield|over s=>simp [pl,pa,po,qo]
 |block a ih=>simp only [pl,pa,po,qo];exact ⟨ih.2,by simp⟩
 |fin s a ih=>simp [pl,pa,po,qo]
 |pair a b iha ihb|going a b iha ihb|stack a b iha ihb=>simp [pl,pa,po,qo]
 |alt a b iha ihb=>simp [pl,pa,po,qo]
 |hand a b iha ihb=>simp only [pl,pa,po,qo,Bool.and_eq_true];exact ⟨fun h=>⟨iha.1 h.1,h.2⟩,by simp⟩
 |seq a b iha ihb=>simp only [pl,pa,po,qo,Bool.and_eq_true];exact ⟨fun h=>⟨iha.1 h.1,h.2⟩,fun h=>⟨iha.2 h.1,h.2⟩⟩
 |par a b iha ihb=>simp only [pl,pa,po,qo,Bool.and_eq_true];exact ⟨fun h=>⟨iha.1 h.1,ihb.1 h.2⟩,fun h=>⟨iha.2 h.1,ihb.2 h.2⟩⟩
theorem zcg {m:Tm} (h:m.pl=true):m.po=true:=(qsd m).1 h
theorem zja {m:Tm} (h:m.pa=true):m.qo=true:=(qsd m).2 h
theorem xli:∀m:Tm,m.po=true→m.qo=false:=by
 intro m
 induction m with
 |act s|skip|throw|yield|over s=>simp [po,qo]
 |block a ih=>simp [po,qo]
 |fin s a ih=>simp [po,qo]
 |pair a b iha ihb|going a b iha ihb|stack a b iha ihb=>simp [po,qo]
 |hand a b iha ihb=>simp [po,qo]
 |alt a b iha ihb=>
  simp only [po,qo,Bool.and_eq_true];intro h;have h1:=iha (zcg h.1);have:a.pa=false:=by
   cases h2:a.pa with
   |false=>rfl
   |true=>rw [zja h2] at h1;cases h1
  simp [this]
 |seq a b iha ihb=>simp only [po,qo,Bool.and_eq_true];intro h;simp [iha h.1]
 |par a b iha ihb=>simp only [po,qo,Bool.and_eq_true];intro h;simp [iha h.1]
def so (m:Tm):Int:=if m.pl then 1 else if m.pa then 2 else if m.po then 3 else if m.qo then 4 else 0
theorem cls (m:Tm):(m.so=1∧m.pl=true∧m.pa=false∧m.po=true∧m.qo=false)∨(m.so=2∧m.pl=false∧m.pa=true∧m.po=false∧m.qo=true)∨
 (m.so=3∧m.pl=false∧m.pa=false∧m.po=true∧m.qo=false)∨(m.so=4∧m.pl=false∧m.pa=false∧m.po=false∧m.qo=true)∨(m.so=0∧m.pl=false∧m.pa=false∧m.po=false∧m.qo=false):=by
 have h1:= @zcg m;have h2:= @zja m;have h3:=xli m;unfold so;cases e1:m.pl<;>cases e2:m.pa<;>cases e3:m.po<;>cases e4:m.qo<;>simp_all
end Tm
def dg (i:Nat):List UInt8:=if i<10 then [UInt8.ofNat (48+i)] else [UInt8.ofNat (48+i/10),UInt8.ofNat (48+i % 10)]
def digB (b:UInt8):Bool:=decide (48≤b)&&decide (b≤57)
theorem qtx:∀i:Nat,i<100→(dg i).all digB=true:=by decide
theorem xfm:∀i:Nat,i<20→∀j:Nat,j<20→dg i=dg j→i=j:=by decide
def keyN (n:Nd):List UInt8:=dg n.1.toNat++(n.2.1.data.toList++(58::(dg n.2.2.toNat++[32])))
def keyL (l:List Nd):List UInt8:=l.flatMap keyN
theorem qzy {α:Type} {x:α}:∀{A A' B B':List α},x∉A→x∉A'→A++x::B=A'++x::B'→A=A'∧B=B'
 |[],[],B,B',_,_,h=>⟨rfl,by simpa using h⟩
 |[],a::A',B,B',_,h2,h=>by simp only [List.nil_append,List.cons_append,List.cons.injEq] at h;exact absurd (by rw [h.1];exact List.mem_cons_self ..) h2
 |a::A,[],B,B',h1,_,h=>by simp only [List.nil_append,List.cons_append,List.cons.injEq] at h;exact absurd (by rw [←h.1];exact List.mem_cons_self ..) h1
 |a::A,a'::A',B,B',h1,h2,h=>by simp only [List.cons_append,List.cons.injEq] at h;obtain ⟨k1,k2⟩:=qzy (fun hm=>h1 (List.mem_cons_of_mem _ hm)) (fun hm=>h2 (List.mem_cons_of_mem _ hm)) h.2;exact ⟨by rw [h.1,k1],k2⟩
theorem yej:∀{A A' B B':List UInt8},A.all digB=true→A'.all digB=true→(∀b r,B=b::r→digB b=false)→(∀b r,B'=b::r→digB b=false)→A++B=A'++B'→A=A'∧B=B'
 |[],[],B,B',_,_,_,_,h=>⟨rfl,by simpa using h⟩
 |[],a::A',B,B',_,h2,hb,_,h=>by simp only [List.all_cons,Bool.and_eq_true] at h2;have:=hb a _ (by simpa using h);rw [h2.1] at this;cases this
 |a::A,[],B,B',h1,_,_,hb,h=>by simp only [List.all_cons,Bool.and_eq_true] at h1;have:=hb a _ (by simpa using h.symm);rw [h1.1] at this;cases this
 |a::A,a'::A',B,B',h1,h2,hb,hb',h=>by simp only [List.all_cons,Bool.and_eq_true] at h1 h2;simp only [List.cons_append,List.cons.injEq] at h;obtain ⟨k1,k2⟩:=yej h1.2 h2.2 hb hb' h.2;exact ⟨by rw [h.1,k1],k2⟩
theorem yvq {b:UInt8} (h:lowB b=true):digB b=false∧b≠58∧b≠32:=by
 unfold lowB at h;have h1:97≤b.toNat:=by simp only [Bool.and_eq_true,decide_eq_true_eq] at h;exact h.1
 refine ⟨?_,?_,?_⟩
 ·unfold digB;rw [Bool.and_eq_false_iff];right;refine decide_eq_false fun h2=> ?_
  rw [UInt8.le_iff_toNat_le] at h2;have:(57:UInt8).toNat=57:=rfl;omega
 ·rintro rfl;have:(58:UInt8).toNat=58:=rfl;omega
 ·rintro rfl;have:(32:UInt8).toNat=32:=rfl;omega
theorem xie {b:UInt8} (h:digB b=true):b≠58∧b≠32:=by
 constructor
 ·rintro rfl;revert h;decide
 ·rintro rfl;revert h;decide
theorem qgh {n:Nd} (h:right n=true):0≤n.1∧n.1<20∧0≤n.2.2∧n.2.2<20∧n.2.1.data.toList.all lowB=true:=by
 unfold right at h;split at h
 ·rename_i e;simp only [Bool.and_eq_true,decide_eq_true_eq,qoa] at h;exact ⟨by omega,by omega,by omega,by omega,h.1.2.2.1⟩
 ·split at h
  ·rename_i e;simp only [Bool.and_eq_true,decide_eq_true_eq] at h;have:=zqb.1 h.2;exact ⟨by omega,by omega,by omega,by omega,by rw [h.1];rfl⟩
  ·rename_i e1 e2;simp only [Bool.and_eq_true,decide_eq_true_eq] at h;refine ⟨?_,?_,by omega,by omega,by rw [h.2.1];rfl⟩
   ·have h1:=h.1;unfold ar at h1;split at h1
    ·omega
    ·split at h1
     ·omega
     ·split at h1
      ·omega
      ·cases h1
   ·have h1:=h.1;unfold ar at h1;split at h1
    ·omega
    ·split at h1
     ·omega
     ·split at h1
      ·omega
      ·cases h1
theorem xcg {n n':Nd} {r r':List UInt8} (hn:right n=true) (hn':right n'=true) (h:keyN n++r=keyN n'++r'):n=n'∧r=r':=by
 obtain ⟨a1,a2,a3,a4,a5⟩:=qgh hn;obtain ⟨b1,b2,b3,b4,b5⟩:=qgh hn';unfold keyN at h;simp only [List.append_assoc,List.cons_append,List.nil_append] at h;have nb:∀{s:ByteArray} {R:List UInt8},s.data.toList.all lowB=true→∀b q,s.data.toList++(58::R)=b::q→digB b=false:=by
  intro s R hs b q e;cases hd:s.data.toList with
  |nil=>rw [hd] at e;simp only [List.nil_append,List.cons.injEq] at e;rw [←e.1];decide
  |cons c cs=>rw [hd] at e hs;simp only [List.cons_append,List.cons.injEq] at e;simp only [List.all_cons,Bool.and_eq_true] at hs;rw [←e.1];exact (yvq hs.1).1
 obtain ⟨e1,h⟩:=yej (qtx _ (by omega)) (qtx _ (by omega)) (nb a5) (nb b5) h;have no58:∀{s:ByteArray},s.data.toList.all lowB=true→(58:UInt8)∉s.data.toList:=fun hs hm=>(yvq (List.all_eq_true.1 hs _ hm)).2.1 rfl
 obtain ⟨e2,h⟩:=qzy (no58 a5) (no58 b5) h;have no32:∀{i:Nat},i<100→(32:UInt8)∉dg i:=fun hi hm=>(xie (List.all_eq_true.1 (qtx _ hi) _ hm)).2 rfl
 obtain ⟨e3,h⟩:=qzy (no32 (by omega)) (no32 (by omega)) h;have k1:=xfm _ (by omega) _ (by omega) e1;have k3:=xfm _ (by omega) _ (by omega) e3;obtain ⟨x,s,z⟩:=n;obtain ⟨x',s',z'⟩:=n';obtain ⟨d⟩:=s;obtain ⟨d'⟩:=s';have k2:d=d':=Array.toList_inj.1 e2;simp only at a1 a3 b1 b3 k1 k3;have:x=x':=by omega
 have:z=z':=by omega
 subst k2;simp_all
theorem ywb (n:Nd):keyN n≠[]:=by unfold keyN;simp
theorem ynu:∀{l l':List Nd},(∀n∈l,right n=true)→(∀n∈l',right n=true)→keyL l=keyL l'→l=l'
 |[],[],_,_,_=>rfl
 |[],n::l',_,_,h=>by simp only [keyL,List.flatMap_nil,List.flatMap_cons] at h;exact absurd (List.append_eq_nil_iff.1 h.symm).1 (ywb n)
 |n::l,[],_,_,h=>by simp only [keyL,List.flatMap_nil,List.flatMap_cons] at h;exact absurd (List.append_eq_nil_iff.1 h).1 (ywb n)
 |n::l,n'::l',h1,h2,h=>by simp only [keyL,List.flatMap_cons] at h;obtain ⟨e1,e2⟩:=xcg (h1 n (List.mem_cons_self ..)) (h2 n' (List.mem_cons_self ..)) h;rw [e1,ynu (l:=l) (l':=l') (fun x hx=>h1 x (List.mem_cons_of_mem _ hx)) (fun x hx=>h2 x (List.mem_cons_of_mem _ hx)) e2]
end Go.Rd
namespace Go.Proofs.YtjolkdjkhekbnaaGreatDoor.Sv
open Go Go.Sv Go.Rd
theorem zcy [Dfr] (k:Int):zpa k=some (arI k):=by
 rw [qvv];by_cases h1:k=1; · subst h1;rfl
 by_cases h2:k=2; · subst h2;rfl
 by_cases h3:k=3; · subst h3;rfl
 by_cases h4:k=4; · subst h4;rfl
 by_cases h5:k=5; · subst h5;rfl
 by_cases h6:k=6; · subst h6;rfl
 by_cases h7:k=7; · subst h7;rfl
 by_cases h8:k=8; · subst h8;rfl
 by_cases h9:k=9; · subst h9;rfl
 by_cases h10:k=10; · subst h10;rfl
 by_cases h11:k=11; · subst h11;rfl
 by_cases h12:k=12; · subst h12;rfl
 by_cases h13:k=13; · subst h13;rfl
 by_cases h14:k=14; · subst h14;rfl
 have e:∀c:Int,¬k=c→(k==c)=false:=fun c h=>beq_false_of_ne h
 simp only [e _ h1,e _ h2,e _ h3,e _ h4,e _ h5,e _ h6,e _ h7,e _ h8,e _ h9,e _ h10,e _ h11,e _ h12,e _ h13,e _ h14,cond_false];simp [arI,ar, *]
def wk (l:List Nd) (at_:Nat):Int×Int:=match P (l.drop at_) with|some (t,r)=>(((at_+t.size:Nat):Int),(t.depth:Int))|none=>(-1,0)
theorem zqg [Dfr] (l:List Nd) (hl:l.length≤4611686018427387904):∀(n i:Nat),l.length-i≤n→i≤l.length→zsj l (i:Int)=some (wk l i):=by
 intro n
 induction n with
 |zero=>intro i hn hi;have h1:l.drop i=[]:=List.drop_eq_nil_of_le (by omega);have h2:decide ((i:Int)≥(l.length:Int))=true:=decide_eq_true (by omega);rw [zza];simp only [h2,cond_true,wk,h1,xla]
 |succ n ih=>
  intro i hn hi;cases hd:l.drop i with
  |nil=>have h2:decide ((i:Int)≥(l.length:Int))=true:=decide_eq_true (by have:=(drop_nil hd).1;omega);rw [zza];simp only [h2,cond_true,wk,hd,xla]
  |cons x r=>
   obtain ⟨h1,h2,h3,h4,h5,h6⟩:=zae hd;have h7:decide ((i:Int)≥(l.length:Int))=false:=decide_eq_false (by omega);have hs:w64 ((i:Int)+1)=((i+1:Nat):Int):=zbj (by omega);have hk:=ih (i+1) (by omega) (by omega);have hP:=xfq x r;rw [←hd] at hP;rw [zza];simp only [h7,cond_false,h3,cond_true,h4,zcy,Option.bind_some,hs];rw [zjk];simp only [h3,cond_true,h4,zcy,Option.bind_some];unfold wk;rw [hP];cases ha:ar x.1 with
   |none=>simp only [arI,ha];rfl
   |some m=>
    have hm:=yxs ha;have e1:arI x.1=(m:Int):=by simp [arI,ha]
    have e2:decide ((m:Int)<0)=false:=decide_eq_false (by omega);simp only [e1,e2,cond_false];rcases m with _|_|_|m
    ·rfl
    ·simp only [show decide ((0:Int)<((0+1:Nat):Int))=true from rfl,cond_true,hk,Option.bind_some];unfold wk;rw [h5];cases hp:P r with
     |none=>rfl
     |some q=>
      obtain ⟨a,l1⟩:=q;have hda:=a.qcw;have g1:decide (((i+1+a.size:Nat):Int)<0)=false:=decide_eq_false (by omega);have g2:decide ((a.depth:Int)>0)=true:=decide_eq_true (by omega);simp only [g1,g2,cond_true,cond_false];rw [zjk];have g3:decide (w64 (0+1)<((0+1:Nat):Int))=false:=rfl;have hds:=a.zpt;have hsz:=(zxu hp).2;have hln:=congrArg List.length hsz;rw [List.length_append,T.zab] at hln;simp only [h3,cond_true,h4,zcy,Option.bind_some,e1,g3,cond_false,T.size,T.depth];simp only [zbj (show a.depth<9223372036854775807 by omega),Nat.beq_refl,cond_true]
      congr 3;omega
    ·simp only [show decide ((0:Int)<((0+1+1:Nat):Int))=true from rfl,cond_true,hk,Option.bind_some];unfold wk;rw [h5];cases hp:P r with
     |none=>rfl
     |some q=>
      obtain ⟨a,l1⟩:=q;have hda:=a.qcw;have g1:decide (((i+1+a.size:Nat):Int)<0)=false:=decide_eq_false (by omega);have g2:decide ((a.depth:Int)>0)=true:=decide_eq_true (by omega);have hsz:=(zxu hp).2;have hln:=congrArg List.length hsz;rw [List.length_append,T.zab] at hln;have hd2:l.drop (i+1+a.size)=l1:=by rw [←List.drop_drop,h5,hsz,List.drop_append_of_le_length (by simp [T.zab]),←T.zab,List.drop_length,List.nil_append]
      have hk2:=ih (i+1+a.size) (by omega) (by omega);have hds:=a.zpt;simp only [g1,g2,cond_true,cond_false];rw [zjk];have g3:decide (w64 (0+1)<((0+1+1:Nat):Int))=true:=rfl;simp only [h3,cond_true,h4,zcy,Option.bind_some,e1,g3,hk2];unfold wk;rw [hd2];cases hp2:P l1 with
      |none=>rfl
      |some q2=>
       obtain ⟨b,l2⟩:=q2;have hdb:=b.qcw;have hdsb:=b.zpt;have hsz2:=(zxu hp2).2;have hln2:=congrArg List.length hsz2;rw [List.length_append,T.zab] at hln2;have g4:decide (((i+1+a.size+b.size:Nat):Int)<0)=false:=decide_eq_false (by omega);simp only [g4,cond_false];have g5:decide (w64 (w64 (0+1)+1)<((0+1+1:Nat):Int))=false:=rfl;by_cases hc:a.depth<b.depth
       ·have g6:decide ((b.depth:Int)>(a.depth:Int))=true:=decide_eq_true (by omega);simp only [g6,cond_true];rw [zjk];simp only [h3,cond_true,h4,zcy,Option.bind_some,e1,g5,cond_false,T.size,T.depth,zbj (show b.depth<9223372036854775807 by omega),Nat.beq_refl];rw [show max a.depth b.depth=b.depth by omega]
        congr 3;omega
       ·have g6:decide ((b.depth:Int)>(a.depth:Int))=false:=decide_eq_false (by omega);simp only [g6,cond_false];rw [zjk];simp only [h3,cond_true,h4,zcy,Option.bind_some,e1,g5,cond_false,T.size,T.depth,zbj (show a.depth<9223372036854775807 by omega),Nat.beq_refl];rw [show max a.depth b.depth=a.depth by omega]
        congr 3;omega
    ·omega
def sz (l:List Nd):Nat:=match P l with|some (t,_)=>t.size|none=>0
def dep (l:List Nd):Nat:=match P l with|some (t,_)=>t.depth|none=>0
theorem qbu [Dfr] (l:List Nd) (hl:l.length≤4611686018427387904):zsk l=some (sz l:Int):=by
 rw [ybp];have:=zqg l hl l.length 0 (by omega) (by omega);rw [show ((0:Nat):Int)=0 from rfl] at this;simp only [this,Option.bind_some,wk,List.drop_zero,sz];cases P l with
 |none=>rfl
 |some q=>have g:decide (((q.1.size:Nat):Int)<0)=false:=decide_eq_false (by omega);simp only [Nat.zero_add,g,cond_false]
theorem qit [Dfr] (l:List Nd) (hl:l.length≤4611686018427387904):zzd l=some (dep l:Int):=by
 rw [qvu];have:=zqg l hl l.length 0 (by omega) (by omega);rw [show ((0:Nat):Int)=0 from rfl] at this;simp only [this,Option.bind_some,wk,List.drop_zero,dep];cases P l with
 |none=>rfl
 |some q=>rfl
theorem qmx [Dfr] (xs ys:List Nd) (hx:xs.length≤4611686018427387904) (hl:xs.length=ys.length) (b:Bool):∀(r:List Nd) (i:Nat),xs.drop i=r→zrx xs ys b (i:Int)=some (if r=ys.drop i then (0,b) else (1,false))
 |[],i,h=>by rw [qaf];obtain ⟨h1,h2⟩:=drop_nil h;simp only [h2,cond_false,List.drop_eq_nil_of_le (show ys.length≤i by omega),if_true]
 |x::r,i,h=>by
  rw [qaf];obtain ⟨h1,h2,h3,h4,h5,h6⟩:=zae h;cases hy:ys.drop i with
  |nil=>have:=List.drop_eq_nil_iff.1 hy;omega
  |cons y s=>
   obtain ⟨k1,k2,k3,k4,k5,k6⟩:=zae hy;simp only [h2,h3,h4,k3,k4,cond_true,xkb,zbj (show i<9223372036854775807 by omega),qmx xs ys hx hl b r (i+1) h5,k5];by_cases e:x=y
   ·simp [e]
   ·simp [e]
theorem zuo [Dfr] (xs ys:List Nd) (hx:xs.length≤4611686018427387904):zsl xs ys=some (decide (xs=ys)):=by
 rw [ybq];by_cases hl:xs.length=ys.length
 ·have h1:((xs.length:Int) != (ys.length:Int))=false:=by simp [hl]
  have:=qmx xs ys hx hl false xs 0 rfl;rw [show ((0:Nat):Int)=0 from rfl,List.drop_zero] at this;simp only [h1,cond_false,this,Option.bind_some];by_cases e:xs=ys<;>simp [e,Nat.beq]
 ·have h1:((xs.length:Int) != (ys.length:Int))=true:=by simp;omega
  have h2:xs≠ys:=fun e=>hl (by rw [e])
  simp [h1,h2]
theorem zzb [Dfr] (n:Nd) (a:List Nd) (h:a.length≤1000000000):zjl n a=some (n::a):=by rw [yfy,room (show (1+a.length)*32≤140737488355328 by omega)];rfl
theorem qry [Dfr] (n:Nd) (a b:List Nd) (ha:a.length≤1000000000) (hb:b.length≤1000000000):zbo n a b=some (n::(a++b)):=by rw [yfx,zzb n a ha];simp only [Option.bind_some,List.length_cons];rw [room (show (a.length+1+b.length)*32≤140737488355328 by omega)];rfl
theorem yly [Dfr] {s:ByteArray} {i:Nat} {x:UInt8} {r:List UInt8} (h:s.data.toList.drop i=x::r):quf s (i:Int)=(x.toNat:Int):=by
 obtain ⟨h1,_,_,h4,_,_⟩:=zae h;unfold quf;rw [Int.toNat_natCast];have:s.data.getD i 0=x:=by
  rw [Array.getD_eq_getD_getElem?,←Array.getElem?_toList,List.getElem?_eq_getElem h1];have:=qfg (xs:=s.data.toList) (i:=i) h1;rw [h4] at this
  simpa using this.symm
 rw [this]
theorem qqy [Dfr] (s:ByteArray):s.data.toList.length=s.size:=Array.length_toList
theorem qbv [Dfr] (n:Nd) (b:Bool) (hs:n.2.1.size≤9223372036854775807):∀(r:List UInt8) (i:Nat),n.2.1.data.toList.drop i=r→zpo n b (i:Int)=some (if r.all lowB then (0,(n,b)) else (1,(n,false)))
 |[],i,h=>by obtain ⟨h1,h2⟩:=drop_nil h;rw [qqy] at h1 h2;rw [zxe];simp only [h2,cond_false,List.all_nil,if_true]
 |x::r,i,h=>by
  have hb:=yly h;obtain ⟨h1,h2,h3,h4,h5,h6⟩:=zae h;rw [qqy] at h1 h2 h3;rw [zxe];simp only [h2,h3,hb,cond_true,zbj (show i<9223372036854775807 by omega),qbv n b hs r (i+1) h5,List.all_cons];by_cases c1:x.toNat<97
  ·rw [decide_eq_true (show (x.toNat:Int)<97 by omega)];simp [lowB,show ¬97≤x.toNat by omega]
  ·rw [decide_eq_false (show ¬(x.toNat:Int)<97 by omega)];by_cases c2:x.toNat>122
   ·rw [decide_eq_true (show (x.toNat:Int)>122 by omega)];simp [lowB,show ¬x.toNat≤122 by omega]
   ·rw [decide_eq_false (show ¬(x.toNat:Int)>122 by omega)];simp [lowB,show 97≤x.toNat by omega,show x.toNat≤122 by omega]
theorem yfw [Dfr] (s:ByteArray):qlc s=some (decide (s∈ymo)):=by
 rw [ybn];simp only [str_eq,ymo,List.mem_cons,List.not_mem_nil,or_false];by_cases h1:s=⟨#[115,107,105,112]⟩
 ·simp [h1]
 by_cases h2:s=⟨#[116,104,114,111,119]⟩
 ·simp [h2]
 by_cases h3:s=⟨#[121,105,101,108,100]⟩
 ·simp [h3]
 by_cases h4:s=⟨#[115,107,105,112,112]⟩
 ·simp [h4]
 by_cases h5:s=⟨#[116,104,114,111,119,119]⟩
 ·simp [h5]
 simp only [h1,h2,h3,h4,h5,decide_false,cond_false,false_or]
theorem qtt [Dfr]:(⟨#[]⟩:ByteArray)=ByteArray.empty:=rfl
theorem xio [Dfr] (k:Int):decide (arI k<0)= !(ar k).isSome:=by
 unfold arI;cases h:ar k with
 |none=>rfl
 |some n=>simp
theorem ybr [Dfr] (n:Nd) (hs:n.2.1.size≤9223372036854775807):qgo n=some (right n):=by
 rw [qvt];simp only [zcy,Option.bind_some,xio,str_eq,qtt];unfold right;by_cases h1:n.1=1
 ·have:=qbv n false hs n.2.1.data.toList 0 rfl;rw [Int.natCast_zero] at this;simp only [h1,this,Option.bind_some,ar];simp only [yfw,Option.bind_some,qoa];have e1:decide ((n.2.1.size:Int)≥1)=decide (1≤n.2.1.size):=by congr 1;exact propext ⟨fun h=>by omega,fun h=>by omega⟩
  have e2:decide ((n.2.1.size:Int)≤8)=decide (n.2.1.size≤8):=by congr 1;exact propext ⟨fun h=>by omega,fun h=>by omega⟩
  cases c1:n.2.1.data.toList.all lowB with
  |false=>simp [Nat.beq]
  |true=>simp only [if_true,Nat.beq_refl,cond_true,e1,e2,int_eq,Option.isSome_some,Bool.not_true,cond_false,decide_true];cases decide (1≤n.2.1.size)<;>cases decide (n.2.1.size≤8)<;>cases decide (n.2.2=0)<;>simp
 ·by_cases h2:n.1=11
  ·simp [h2,ar,zmc];by_cases c1:n.2.1=ByteArray.empty<;>by_cases c2:1≤n.2.2<;>simp [c1,c2]
  ·by_cases h3:n.1=14
   ·simp [h3,ar,zmc];by_cases c1:n.2.1=ByteArray.empty<;>by_cases c2:1≤n.2.2<;>simp [c1,c2]
   ·simp only [beq_false_of_ne h1,beq_false_of_ne h2,beq_false_of_ne h3,cond_false,h1,h2,h3,or_self,if_false,int_eq];cases (ar n.1).isSome with
    |false=>rfl
    |true=>by_cases c1:n.2.1=ByteArray.empty<;>by_cases c2:n.2.2=0<;>simp [c1,c2]
theorem qbt [Dfr] (l:List Nd) (b:Bool) (hl:l.length≤4611686018427387904) (hs:∀n∈l,n.2.1.size≤9223372036854775807):∀(r:List Nd) (i:Nat),l.drop i=r→zpn l b (i:Int)=some (bif r.all right then (0,(l,b)) else (1,(l,false)))
 |[],i,h=>by obtain ⟨h1,h2⟩:=drop_nil h;rw [zxd];simp only [h2,cond_false,List.all_nil,cond_true]
 |x::r,i,h=>by obtain ⟨h1,h2,h3,h4,h5,h6⟩:=zae h;have hx:x.2.1.size≤9223372036854775807:=hs x (List.mem_of_mem_drop (by rw [h];exact List.mem_cons_self ..));rw [zxd];simp only [h2,h3,h4,cond_true,ybr x hx,Option.bind_some,zbj (show i<9223372036854775807 by omega),qbt l b hl hs r (i+1) h5,List.all_cons];cases right x<;>rfl
theorem xlb [Dfr] {l:List Nd}:one l=decide (sz l=l.length∧1≤l.length):=by
 unfold one sz;cases h:P l with
 |none=>
  by_cases h1:l.length=0
  ·simp [h1]
  ·simp;omega
 |some q=>
  obtain ⟨t,r⟩:=q;obtain ⟨h1,h2⟩:=zxu h;have:=congrArg List.length h2;rw [List.length_append,T.zab] at this;have hp:=t.zdj;cases r with
  |nil=>simp at this ⊢;omega
  |cons x r=>simp at this ⊢;omega
theorem ybo [Dfr] (l:List Nd) (hl:l.length≤4611686018427387904) (hs:∀n∈l,n.2.1.size≤9223372036854775807):qgn l=some (whole l):=by
 rw [qvs];have:=qbt l false hl hs l 0 rfl;rw [Int.natCast_zero] at this;rw [this];unfold whole;rw [xlb];cases h:l.all right with
 |true=>
  simp only [cond_true,Option.bind_some,Bool.true_and,Nat.beq_refl,cond_true,qbu l hl];by_cases h1:1≤l.length
  ·by_cases h2:l.length≤200
   ·have e1:decide ((l.length:Int)≥1)=true:=decide_eq_true (by omega);have e2:decide ((l.length:Int)≤200)=true:=decide_eq_true (by omega);simp only [e1,e2,cond_true,h1,h2,and_true,decide_true,Bool.true_and];by_cases h3:sz l=l.length
    ·simp [h3]
    ·have:((sz l:Int)==(l.length:Int))=false:=beq_false_of_ne (by omega);simp [h3,this]
   ·have e1:decide ((l.length:Int)≥1)=true:=decide_eq_true (by omega);have e2:decide ((l.length:Int)≤200)=false:=decide_eq_false (by omega);simp [e1,e2,h2]
  ·have e1:decide ((l.length:Int)≥1)=false:=decide_eq_false (by omega);simp [e1,h1]
 |false=>simp [Nat.beq]
def zfl (l:List Nd):List (List Nd):=match P l with|some (t,_)=>t.kids.map T.row|none=>[]
theorem ziw [Dfr] {l:List Nd} {i:Nat} {a:T} {r:List Nd} (h:l.drop i=a.row++r):cut l (i:Int) ((i+a.size:Nat):Int)=a.row∧l.drop (i+a.size)=r∧i+a.size≤l.length∧zbe (i:Int) ((i+a.size:Nat):Int) l.length=true:=by
 have hlen:=congrArg List.length h;rw [List.length_drop,List.length_append,T.zab] at hlen;have hp:=a.zdj;refine ⟨?_,?_,by omega,zld (by omega) (by omega)⟩
 ·rw [zrb,List.drop_take,h];rw [show i+a.size-i=a.row.length by rw [T.zab];omega,List.take_left]
 ·rw [←List.drop_drop,h,←T.zab,List.drop_left]
theorem zkq [Dfr] (l:List Nd) (hl:l.length≤4611686018427387904):zfd l=some (zfl l):=by
 rw [ybs];simp only [qbu l hl,Option.bind_some];unfold zfl sz;cases h:P l with
 |none=>rfl
 |some q=>
  obtain ⟨t,r⟩:=q;obtain ⟨hok,hl2⟩:=zxu h;have hp:=t.zdj;have e0:(((t.size:Nat):Int)==0)=false:=beq_false_of_ne (by omega);simp only [e0,cond_false];cases t with
  |n0 n=>
   have ha:ar n.1=some 0:=hok;have hix:ix l 0=n:=by rw [hl2];rfl
   have hid:zaa 0 l.length=true:=zax (by rw [hl2];simp [T.row]);rw [zgv];simp only [hid,hix,cond_true,zcy,Option.bind_some,arI,ha];rfl
  |n1 n a=>
   have ha:ar n.1=some 1:=hok.1;have hix:ix l 0=n:=by rw [hl2];rfl
   have hid:zaa 0 l.length=true:=zax (by rw [hl2];simp [T.row]);have hd1:l.drop 1=a.row++r:=by rw [hl2];rfl
   have hw:=zqg l hl l.length 1 (by omega) (by have:=congrArg List.length hl2;simp [T.row] at this;omega);obtain ⟨k1,k2,k3,k4⟩:=ziw hd1;unfold wk at hw;rw [hd1,qem hok.2] at hw;rw [zgv];simp only [hid,hix,cond_true,zcy,Option.bind_some,arI,ha];rw [show decide ((0:Int)<((1:Nat):Int))=true from rfl,show (1:Int)=((1:Nat):Int) from rfl,hw];simp only [cond_true,Option.bind_some,k1,k4,room (show (([]:List (List Nd)).length+1)*24≤140737488355328 by decide)];rw [zgv];simp only [hid,hix,cond_true,zcy,Option.bind_some,arI,ha];rfl
  |n2 n a b=>
   have ha:ar n.1=some 2:=hok.1;have hix:ix l 0=n:=by rw [hl2];rfl
   have hid:zaa 0 l.length=true:=zax (by rw [hl2];simp [T.row]);have hd1:l.drop 1=a.row++(b.row++r):=by rw [hl2];simp [T.row]
   have hw:=zqg l hl l.length 1 (by omega) (by have:=congrArg List.length hl2;simp [T.row] at this;omega);obtain ⟨k1,k2,k3,k4⟩:=ziw hd1;unfold wk at hw;rw [hd1,qem hok.2.1] at hw;have hw2:=zqg l hl l.length (1+a.size) (by omega) k3;obtain ⟨j1,j2,j3,j4⟩:=ziw k2;unfold wk at hw2;rw [k2,qem hok.2.2] at hw2;rw [zgv];simp only [hid,hix,cond_true,zcy,Option.bind_some,arI,ha];rw [show decide ((0:Int)<((2:Nat):Int))=true from rfl,show (1:Int)=((1:Nat):Int) from rfl,hw];simp only [cond_true,Option.bind_some,k1,k4,room (show (([]:List (List Nd)).length+1)*24≤140737488355328 by decide)];rw [zgv];simp only [hid,hix,cond_true,zcy,Option.bind_some,arI,ha];rw [show decide (w64 (0+((1:Nat):Int))<((2:Nat):Int))=true from rfl,hw2];simp only [cond_true,Option.bind_some,j1,j4,List.nil_append,room (show (([a.row]:List (List Nd)).length+1)*24≤140737488355328 by simp)];rw [zgv]
   simp only [hid,hix,cond_true,zcy,Option.bind_some,arI,ha];rfl
theorem qdz [Dfr] (m:Tm):zfl m.row=m.t.kids.map T.row:=by unfold zfl;rw [show P m.row=some (m.t,[]) from qfo m.t_ok]
end Go.Proofs.YtjolkdjkhekbnaaGreatDoor.Sv
