/- Traces: what the documents says of them, in plain Lean; no program in sight. -/
import Derived.Test.YtjolkdjkhekbnaaGreatDoorSvM
import Derived.Test.YtjolkdjkhekbnaaGreatDoorM3
set_option linter.unusedVariables false
set_option linter.unusedSimpArgs false
namespace Go.Rd
open Go Go.Sv
def ziv (p q:Tc):Tc:=if p.2=1 then (p.1++q.1,q.2) else p
def zij:List ByteArray→List ByteArray→List ByteArray→List (List ByteArray)
 |D,[],[]=>[D]
 |D,x::p,[]=>zij (D++[x]) p []
 |D,[],y::q=>zij (D++[y]) [] q
 |D,x::p,y::q=>zij (D++[x]) p (y::q)++zij (D++[y]) (x::p) q
termination_by _ p q=>p.length+q.length
inductive Mx {α:Type}:List α→List α→List α→Prop where
 |nil:Mx [] [] []
 |l {x:α} {p q r:List α}:Mx p q r→Mx (x::p) q (x::r)
 |r {y:α} {p q r:List α}:Mx p q r→Mx p (y::q) (y::r)
namespace Mx
variable {α:Type}
theorem right:∀(q:List α),Mx [] q q
 |[]=>.nil
 |y::q=>.r (right q)
theorem left:∀(p:List α),Mx p [] p
 |[]=>.nil
 |y::q=>.l (left q)
theorem qvx {q r:List α} (h:Mx [] q r):r=q:=by
 generalize hp:([]:List α)=p at h
 induction h with
 |nil=>rfl
 |l _ _=>cases hp
 |r _ ih=>rw [ih hp]
theorem yvh {q r:List α} (h:Mx q [] r):r=q:=by
 generalize hp:([]:List α)=p at h
 induction h with
 |nil=>rfl
 |l _ ih=>rw [ih hp]
 |r _ _=>cases hp
theorem symm {p q r:List α} (h:Mx p q r):Mx q p r:=by
 induction h with
 |nil=>exact .nil
 |l _ ih=>exact .r ih
 |r _ ih=>exact .l ih
theorem len {p q r:List α} (h:Mx p q r):r.length=p.length+q.length:=by
 induction h with
 |nil=>rfl
 |l _ ih=>simp only [List.length_cons,ih];omega
 |r _ ih=>simp only [List.length_cons,ih];omega
theorem sub {p q r:List α} (h:Mx p q r):p.Sublist r:=by
 induction h with
 |nil=>exact .slnil
 |l _ ih=>exact ih.cons_cons _
 |r _ ih=>exact ih.cons _
end Mx
theorem zxj:∀{D p q x:List ByteArray},x∈zij D p q↔∃r,x=D++r∧Mx p q r
 |D,[],[],x=>by rw [zij,List.mem_singleton];exact ⟨fun h=>⟨[],by simp [h],.nil⟩,fun ⟨r,h,hr⟩=>by rw [hr.qvx] at h;simpa using h⟩
 |D,a::p,[],x=>by
  rw [zij,zxj];constructor
  ·rintro ⟨r,rfl,hr⟩;exact ⟨a::r,by simp,.l hr⟩
  ·rintro ⟨r,rfl,hr⟩;rw [hr.yvh];exact ⟨p,by simp,.left p⟩
 |D,[],b::q,x=>by
  rw [zij,zxj];constructor
  ·rintro ⟨r,rfl,hr⟩;exact ⟨b::r,by simp,.r hr⟩
  ·rintro ⟨r,rfl,hr⟩;rw [hr.qvx];exact ⟨q,by simp,.right q⟩
 |D,a::p,b::q,x=>by
  rw [zij,List.mem_append,zxj,zxj];constructor
  ·rintro (⟨r,rfl,hr⟩|⟨r,rfl,hr⟩)
   ·exact ⟨a::r,by simp,.l hr⟩
   ·exact ⟨b::r,by simp,.r hr⟩
  ·rintro ⟨r,rfl,hr⟩;cases hr with
   |l hr=>exact .inl ⟨_,by simp,hr⟩
   |r hr=>exact .inr ⟨_,by simp,hr⟩
termination_by _ p q=>p.length+q.length
def chN:Nat→Nat→Nat
 |0,_=>1
 |_+1,0=>1
 |m+1,n+1=>chN m (n+1)+chN (m+1) n
theorem zzv (m:Nat):chN m 0=1:=by cases m<;>rw [chN]
theorem zky:∀(D p q:List ByteArray),(zij D p q).length=chN p.length q.length
 |D,[],[]=>by rw [zij];simp [chN]
 |D,x::p,[]=>by rw [zij,zky _ p []];simp [zzv]
 |D,[],y::q=>by rw [zij,zky _ [] q];simp [chN]
 |D,x::p,y::q=>by rw [zij,List.length_append,zky,zky];simp [chN]
termination_by _ p q=>p.length+q.length
theorem yol:∀(m n:Nat),chN m n≤2 ^ (m+n)
 |0,n=>by rw [chN];exact Nat.one_le_two_pow
 |m+1,0=>by rw [chN];exact Nat.one_le_two_pow
 |m+1,n+1=>by have h1:=yol m (n+1);have h2:=yol (m+1) n;rw [chN,show m+1+(n+1)=(m+n+1)+1 by omega,Nat.pow_succ];rw [show m+(n+1)=m+n+1 by omega] at h1;rw [show m+1+n=m+n+1 by omega] at h2;omega
theorem qci {D p q:List ByteArray} {n:Nat} (h:p.length+q.length≤n):(zij D p q).length≤2 ^ n:=by rw [zky];exact Nat.le_trans (yol _ _) (Nat.pow_le_pow_right (by omega) h)
def mixS (a b:List ByteArray):List (List ByteArray):=canon cmpA (zij [] a b)
theorem ynn {a b x:List ByteArray}:x∈mixS a b↔Mx a b x:=by unfold mixS;rw [zdm ordA,zxj];exact ⟨fun ⟨r,h,hr⟩=>by rw [h];exact hr,fun h=>⟨x,rfl,h⟩⟩
theorem qfd {a b:List ByteArray} {n:Nat} (h:a.length+b.length≤n):(mixS a b).length≤2 ^ n:=Nat.le_trans (zao _) (qci h)
def parE (e:Int) (p q:List ByteArray):List Tc:=(mixS p q).map fun l=>(l,e)
theorem qdw {e:Int} {p q:List ByteArray} {x:Tc}:x∈parE e p q↔Mx p q x.1∧x.2=e:=by
 unfold parE;rw [List.mem_map];constructor
 ·rintro ⟨l,h,rfl⟩;exact ⟨ynn.1 h,rfl⟩
 ·rintro ⟨h,rfl⟩;exact ⟨x.1,ynn.2 h,rfl⟩
end Go.Rd
namespace Go.Proofs.YtjolkdjkhekbnaaGreatDoor.Sv
open Go Go.Sv Go.Proofs Go.Rd
set_option maxRecDepth 100000
def mixH (N:Nat) (D p q:List ByteArray) (xs:List (List ByteArray)):Option (List (List ByteArray)):=
 if p.length+q.length<N∧D.length+p.length+q.length≤1000000∧xs.length+(zij D p q).length≤1000000 then some (xs++zij D p q) else none
theorem xgm [Dfr] {G:PinF} (hp:yil Tryz.prog (Es G)):qel Tryz.prog (Es G):=
 ⟨tab.mixed,⟨fun t i h=>tab.types.ti t i h⟩,⟨tab.elems.row,tab.elems.el,tab.elems.arr⟩,fun f b e u h=>have r:=tab.rows f b e u h;⟨r.call,r.none,r.sort,r.compact⟩,hp,fun f e u h=>tab.revs f e u h⟩
theorem xgn [Dfr] [zfm] {G:PinF}:qaq Tryz.prog (Es G) (run E 1):=fun f x r h=>by obtain ⟨h1,h2⟩:=zqd qwp 1 f x r h;exact ⟨h1,fun w F0 G A vs hA=>h2 w F0 G A vs ⟨hA.rel,hA.bx,hA.tgm,hA.tgi,hA.f0,hA.glob⟩⟩
theorem zxb [Dfr] {n b:Nat} (h:n≤1000001) (hb:b≤24):zai n b=true:=by unfold zai;refine decide_eq_true ?_;have:n*b≤1000001*24:=Nat.mul_le_mul h hb;omega
theorem ylp [Dfr] {α:Type} (D:List α):cut D 0 (D.length:Int)=D:=by simp [cut]
theorem yxa [Dfr] {α:Type} (x:α) (p:List α):cut (x::p) 1 ((x::p).length:Int)=p:=by simp [cut]
theorem qtz [Dfr] {n:Nat}:zbe 0 (n:Int) n=true:=by simp [zbe]
theorem qkc [Dfr] {n:Nat} (h:1≤n):zbe 1 (n:Int) n=true:=by simp [zbe];omega
theorem ycq [Dfr] {n:Nat} (h:1≤n):zaa 0 n=true:=by simp [zaa];omega
theorem qod [Dfr] (D p q:List ByteArray):1≤(zij D p q).length:=by
 rw [zky];have:∀m n,1≤chN m n:=fun m=>by
  induction m with
  |zero=>intro n;rw [chN];omega
  |succ m ih=>intro n;cases n with
   |zero=>rw [chN];omega
   |succ n=>rw [chN];have:=ih (n+1);omega
 exact this _ _
theorem xkr [Dfr] {N:Nat} {D p q:List ByteArray} {xs ys:List (List ByteArray)} (h:mixH (N+1) D p q xs=some ys):∃tag,∀br n,zft (Es (qnx (mixH N))) (run E 1) n zvo yak 0 none (qre xaf .str D p q zrq qik qbi xs br zvo) (yie zrq qik qbi)=some (br,tag,ys):=by
 unfold mixH at h;split at h
 ·rename_i hc;obtain ⟨h1,h2,h3⟩:=hc;simp only [Option.some.injEq] at h;subst h;have hG:∀D p q xs,p.length+q.length<N→D.length+p.length+q.length≤1000000→xs.length+(zij D p q).length≤1000000→qnx (mixH N) zvo zrq qik (zme D p q) qbi xs=some (xs++zij D p q):=fun D p q xs a b c=>by rw [xag];unfold mixH;rw [if_pos ⟨a,b,c⟩]
  have hw:IntKind.wrap .i64 ((p.length:Int)+(q.length:Int))=(p.length:Int)+(q.length:Int):=zgz (by omega) (by omega);have hp1:=qod D p q;cases p with
  |nil=>
   cases q with
   |nil=>
    refine ⟨1152,fun br n=>(yaj _ D [] [] xs br n).trans ?_⟩;have e0:((IntKind.wrap .i64 ((([]:List ByteArray).length:Int)+(([]:List ByteArray).length:Int)))==0)=true:=by rw [hw];rfl
    have e2:decide ((([]:List ByteArray).length:Int)>0)=false:=by simp
    rw [e0,e2];simp only [cond_false,cond_true,zbz,zxb (n:=D.length) (b:=16) (by omega) (by omega),Option.bind_some,zxb (n:=xs.length+1) (b:=24) (by omega) (by omega),zij]
   |cons y q=>
    refine ⟨192,fun br n=>(yaj _ D [] (y::q) xs br n).trans ?_⟩;simp only [List.length_cons,List.length_nil] at h1 h2 h3 hw hp1;have e0:((IntKind.wrap .i64 ((([]:List ByteArray).length:Int)+((y::q).length:Int)))==0)=false:=by simp only [List.length_cons,List.length_nil];rw [hw];simp;omega
    have e1:decide (((y::q).length:Int)>0)=true:=by simp
    have e2:decide ((([]:List ByteArray).length:Int)>0)=false:=by simp
    rw [e0,e1,e2];simp only [cond_false,cond_true,qtz,ylp,yxa,ycq (n:=(y::q).length) (by simp),qkc (n:=(y::q).length) (by simp),zxb (n:=D.length+1) (b:=16) (by omega) (by omega),decide_true,Bool.and_true,Bool.and_self];have em:zij D [] (y::q)=zij (D++[y]) [] q:=by rw [zij]
    show ((qnx (mixH N) zvo zrq qik (zme (D++[y]) [] q) qbi xs).bind fun r3=>some (br,192,r3))=_;rw [hG (D++[y]) [] q xs (by simp only [List.length_nil];omega) (by simp only [List.length_append,List.length_cons,List.length_nil];omega) (by rw [←em];exact h3),em];rfl
  |cons x p=>
   simp only [List.length_cons] at h1 h2 h3 hw hp1;have e0:∀q:List ByteArray,(IntKind.wrap .i64 (((p.length+1:Nat):Int)+(q.length:Int))=((p.length+1:Nat):Int)+(q.length:Int))→((IntKind.wrap .i64 (((x::p).length:Int)+(q.length:Int)))==0)=false:=fun q hw=>by simp only [List.length_cons];rw [hw];simp;omega
   have e1:decide (((x::p).length:Int)>0)=true:=by simp
   cases q with
   |nil=>
    refine ⟨192,fun br n=>(yaj _ D (x::p) [] xs br n).trans ?_⟩;have e2:decide ((([]:List ByteArray).length:Int)>0)=false:=by simp
    rw [e0 [] hw,e1,e2];simp only [cond_false,cond_true,qtz,ylp,yxa,ycq (n:=(x::p).length) (by simp),qkc (n:=(x::p).length) (by simp),zxb (n:=D.length+1) (b:=16) (by omega) (by omega),decide_true,Bool.and_true,Bool.and_self];have em:zij D (x::p) []=zij (D++[x]) p []:=by rw [zij]
    show ((qnx (mixH N) zvo zrq qik (zme (D++[x]) p []) qbi xs).bind fun r3=>some (br,192,r3))=_;rw [hG (D++[x]) p [] xs (by simp only [List.length_nil] at h1 ⊢;omega) (by simp only [List.length_append,List.length_cons,List.length_nil] at h2 ⊢;omega) (by rw [←em];exact h3),em];rfl
   |cons y q=>
    refine ⟨192,fun br n=>(yaj _ D (x::p) (y::q) xs br n).trans ?_⟩;have e2:decide (((y::q).length:Int)>0)=true:=by simp
    rw [e0 (y::q) hw,e1,e2];simp only [List.length_cons] at h1 h2;simp only [cond_false,cond_true,qtz,ylp,yxa,ycq (n:=(x::p).length) (by simp),qkc (n:=(x::p).length) (by simp),ycq (n:=(y::q).length) (by simp),qkc (n:=(y::q).length) (by simp),zxb (n:=D.length+1) (b:=16) (by omega) (by omega),decide_true,Bool.and_true,Bool.and_self];have em:zij D (x::p) (y::q)=zij (D++[x]) p (y::q)++zij (D++[y]) (x::p) q:=by rw [zij]
    rw [em,List.length_append] at h3;show ((qnx (mixH N) zvo zrq qik (zme (D++[x]) p (y::q)) qbi xs).bind fun r2=>(qnx (mixH N) zvo zrq qik (zme (D++[y]) (x::p) q) qbi r2).bind fun r3=>some (br,192,r3))=_;rw [hG (D++[x]) p (y::q) xs (by simp only [List.length_cons];omega) (by simp only [List.length_append,List.length_cons,List.length_nil];omega) (by omega),Option.bind_some,
     hG (D++[y]) (x::p) q _ (by simp only [List.length_cons];omega) (by simp only [List.length_append,List.length_cons,List.length_nil];omega) (by rw [List.length_append];omega),em,List.append_assoc]
    rfl
 ·cases h
theorem ytk [Dfr] {N:Nat}:∀v t' e' args u' xs ys,(Es (qnx (mixH N))).pinF v t' e' args u' xs=some ys→v=zvo∧t'=zrq∧e'=qik∧∃h:u'=qbi,((zyp args).bind fun x=>mixH N x.1 x.2.1 x.2.2 (h▸xs:List qbi.den))=some (h▸ys:List qbi.den):=fun v t' e' args u' xs ys h=>by
 have h':qnx (mixH N) v t' e' args u' xs=some ys:=h;unfold qnx at h';split at h'
 ·rename_i hq;obtain ⟨rfl,rfl,rfl,rfl⟩:=hq;refine ⟨rfl,rfl,rfl,rfl,?_⟩;cases ha:zyp args with
  |none=>rw [ha] at h';cases h'
  |some x=>rw [ha] at h';simp only [Option.bind_some,Option.map_eq_some_iff] at h' ⊢;obtain ⟨ys',h1,h2⟩:=h';have h3:ys'=ys:=h2;rw [←h3];exact h1
 ·cases h'
theorem ytj [Dfr] [zfm]:∀N,xfp Tryz.prog (Es (qnx (mixH N))) zvo zrq qik qbi (fun args xs=>(zyp args).bind fun x=>mixH N x.1 x.2.1 x.2.2 xs)
 |0=>⟨⟨Tryz.f226,Tryz.func226,by kernel_rfl,by kernel_rfl⟩,fun args xs ys h=>by
  simp only [Option.bind_eq_some_iff] at h;obtain ⟨x,_,h⟩:=h;simp [mixH] at h,fun args xs ys h=>by
  simp only [Option.bind_eq_some_iff] at h;obtain ⟨x,_,h⟩:=h;simp [mixH] at h⟩
 |N+1=>by
  have ih:=ytj N;refine ⟨ih.call,fun args xs ys h=> ?_,fun args xs ys h w F bo br so vs own hF hbo hown hheap hrow hbr hcell hglob hvs=> ?_⟩
  ·simp only [Option.bind_eq_some_iff] at h;obtain ⟨x,hx,_⟩:=h;rw [qil hx];intro s hs;simp only [zme,List.mem_cons,List.not_mem_nil,or_false] at hs;rcases hs with rfl|rfl|rfl<;>exact ⟨_,_,_,rfl⟩
  ·simp only [Option.bind_eq_some_iff] at h;obtain ⟨⟨D,p,q⟩,hx,h⟩:=h;rw [qil hx] at hvs;obtain ⟨tag,hev⟩:=xkr h;exact ypk (xgm (xhk ih ytk)) xgn (f:=zvo) (fn:=Tryz.f226) (body:=yak) (k:=0) Tryz.func226 (by kernel_rfl) (by kernel_rfl) (by kernel_rfl) (fun br=>hev br 0) w F bo br so vs own hF hbo hown hheap hrow hbr hcell hglob hvs
open Go Go.Sv Go.Rd
theorem emp [Dfr]:(ByteArray.empty.toList==ByteArray.empty.toList)=true:=beq_self_eq_true _
theorem ytb [Dfr] (x:Int):yae x=some (zmc x):=by
 rw [yph];unfold zmc;by_cases h:x≥1
 ·rw [decide_eq_true h];simp
 ·rw [decide_eq_false h];rfl
theorem qqz [Dfr] (x y:Int):qih x y=some (bs x y):=by rw [yeq];simp only [ytb,Option.bind_some,int_eq,bs];cases zmc x<;>cases zmc y<;>simp;by_cases h1:x=2<;>by_cases h2:y=2<;>simp [h1,h2]
theorem ypz [Dfr] (x:Int):qoz x=some (zmc x):=by
 rw [ykc];simp only [int_eq];by_cases h1:x=1
 ·subst h1;rfl
 by_cases h2:x=2
 ·subst h2;rfl
 by_cases h3:x=3
 ·subst h3;rfl
 have:zmc x=false:=by
  cases h:zmc x with
  |false=>rfl
  |true=>rcases zqb.1 h with h|h|h<;>contradiction
 rw [this];simp only [h1,h2,h3,decide_false,cond_false]
theorem ygc [Dfr] (x y:Int):qle x y=some (bs x y):=by rw [ybu];simp only [ypz,Option.bind_some,int_eq,bs];cases hx:zmc x<;>cases hy:zmc y<;>simp;rcases zqb.1 hx with rfl|rfl|rfl<;>rcases zqb.1 hy with rfl|rfl|rfl<;>rfl
theorem qkf [Dfr] (x y:Int):zrd x y=some (ordN (cmpI x y)):=by
 rw [qhg,zxt,zxt];unfold cmpI;by_cases h:x<y
 ·simp [h,ordN]
 ·by_cases h':x=y
  ·simp [h',ordN]
  ·have h2:y<x:=by omega
   simp [h,h',h2,ordN]
theorem zqn [Dfr] (x y:ByteArray):znb x y=some (ordN (cmpB x y)):=by
 rw [qap,zri,zri];simp only [Option.bind_some,beq_self_eq_true,Bool.not_true,cond_false,qzs,str_eq];cases h:cmpB x y with
 |lt=>simp [ordN]
 |eq=>have e:=(ordB.eq x y).1 h;simp [e,ordN]
 |gt=>
  have e:x≠y:=fun e=>by rw [e,ordB.rfl'] at h;cases h
  simp [e,ordN]
theorem qfn [Dfr] (a b:Int):zzu [a,b]=some (if a=0 then b else a):=by
 rw [qwv,zpg,zpg,zpg];by_cases h:a=0
 ·by_cases h':b=0
  ·subst h;subst h';rfl
  ·subst h;have e1:(ix [0,b] 0 != 0)=false:=rfl;have e2:(ix [0,b] (w64 (0+1)) != 0)=true:=by show (b != 0)=true;simpa using h'
   simp only [e1,e2,cond_false,cond_true];rfl
 ·have e1:(ix [a,b] 0 != 0)=true:=by show (a != 0)=true;simpa using h
  simp only [e1,cond_true,if_neg h];rfl
theorem qsi [Dfr] (a b:Ordering):ordN (a.then b)=if ordN a=0 then ordN b else ordN a:=by cases a<;>rfl
theorem zls [Dfr] (xs ys:List ByteArray) (hx:xs.length≤4611686018427387904):∀(r s:List ByteArray) (i:Nat),xs.drop i=r→ys.drop i=s→i≤xs.length→i≤ys.length→
 ∃e,zfh xs ys 0 xs (xs.length:Int) (i:Int)=some e∧(bif Nat.beq e.1 0 then (bif (decide ((e.2.1.length:Int)<(e.2.2.1.length:Int))) then (some (-1)) else (some 0)) else (some e.2.2.2))=some (ordN (cmpL cmpB r s))
 |[],s,i,h,k,hi,hj=>by
  obtain ⟨h1,h2⟩:=drop_nil h;refine ⟨(0,(xs,ys,0)),?_,?_⟩
  ·rw [zee];simp only [h2,cond_false]
  ·have hk:=congrArg List.length k;rw [List.length_drop] at hk;cases s with
   |nil=>rw [List.length_nil] at hk;have e:decide ((xs.length:Int)<(ys.length:Int))=false:=decide_eq_false (by omega);simp only [e];rfl
   |cons y s=>rw [List.length_cons] at hk;have e:decide ((xs.length:Int)<(ys.length:Int))=true:=decide_eq_true (by omega);simp only [e];rfl
 |x::r,[],i,h,k,hi,hj=>by obtain ⟨h1,h2,h3,h4,h5,h6⟩:=zae h;obtain ⟨k1,k2⟩:=drop_nil k;refine ⟨(1,(xs,ys,1)),?_,rfl⟩;rw [zee];simp only [h2,h3,cond_true,decide_eq_true (show (i:Int)≥(ys.length:Int) by omega)]
 |x::r,y::s,i,h,k,hi,hj=>by
  obtain ⟨h1,h2,h3,h4,h5,h6⟩:=zae h;obtain ⟨k1,k2,k3,k4,k5,k6⟩:=zae k;obtain ⟨e,he,hr⟩:=zls xs ys hx r s (i+1) h5 k5 (by omega) (by omega);rw [cmpL,qsi];by_cases hc:ordN (cmpB x y)=0
  ·refine ⟨e,?_,by rw [if_pos hc];exact hr⟩;rw [zee];have e1:(ordN (cmpB x y) != 0)=false:=by simp [hc]
   simp only [h2,h3,h4,k3,k4,cond_true,decide_eq_false (show ¬(i:Int)≥(ys.length:Int) by omega),cond_false,zqn,Option.bind_some,e1,zbj (show i<9223372036854775807 by omega),he]
  ·refine ⟨(1,(xs,ys,ordN (cmpB x y))),?_,by rw [if_neg hc];rfl⟩;rw [zee];have e1:(ordN (cmpB x y) != 0)=true:=by simpa using hc
   simp only [h2,h3,h4,k3,k4,cond_true,decide_eq_false (show ¬(i:Int)≥(ys.length:Int) by omega),cond_false,zqn,Option.bind_some,e1]
theorem znj [Dfr] (xs ys:List ByteArray) (hx:xs.length≤4611686018427387904):zgq xs ys=some (ordN (cmpA xs ys)):=by obtain ⟨e,he,hr⟩:=zls xs ys hx xs ys 0 rfl rfl (by omega) (by omega);rw [Int.natCast_zero] at he;rw [zvl,he,Option.bind_some];exact hr
theorem zha [Dfr] (x y:Tc) (hx:x.1.length≤4611686018427387904):zfc x y=some (ordN (cmpT x y)):=by rw [qak,znj _ _ hx,Option.bind_some,qkf,Option.bind_some,qfn,Option.bind_some];show _=some (ordN (Ordering.then _ _));rw [qsi]
theorem qav [Dfr] (x y:Tc) (hx:x.1.length≤4611686018427387904):zrk x y=some (ordN (cmpT x y)):=by rw [qnq,zha x y hx];rfl
theorem qpb [Dfr] (o:Ordering):(ordN o==0)=decide (o= .eq):=by cases o<;>rfl
theorem qzf [Dfr] (x y:Tc) (hx:x.1.length≤4611686018427387904):qfs x y=some (decide (cmpT x y= .eq)):=by rw [qva,zha x y hx,Option.bind_some,qpb]
def zwz (l:List Tc):Prop:=∀x∈l,x.1.length≤4611686018427387904
theorem zgb [Dfr] (l:List Tc) (hl:l.length≤1000000000) (hs:zwz l):zfn l=some (canon cmpT l):=by
 rw [ydr,zsz l hl,Option.bind_some];simp only [Option.bind_fun_some];exact qbc (u:=.pair (.slice 9 .str) (.int .i64)) ordT (by omega) (fun x hx y hy=>(zxy x.1 x.2 y.1 y.2).trans (zha x y (hs x hx)))
  (fun x hx y hy=>(qpu x.1 x.2 y.1 y.2).trans (qzf x y (hs x hx)))
theorem qzi [Dfr] (x y:Tc) (hx:x.1.length≤4611686018427387904):qfu x y=some (decide (cmpT x y= .eq)):=by rw [qvb,zha x y hx,Option.bind_some,qpb]
theorem xip [Dfr] (l:List Tc) (t:Tc):(l.any fun x=>decide (cmpT x t= .eq))=decide (t∈l):=by
 rw [Bool.eq_iff_iff,List.any_eq_true,decide_eq_true_iff];constructor
 ·rintro ⟨x,hx,h⟩;rw [decide_eq_true_iff,ordT.eq] at h;rw [←h];exact hx
 ·exact fun h=>⟨t,h,by rw [decide_eq_true_iff,ordT.eq]⟩
theorem qpw [Dfr] (l:List Tc) (t:Tc) (hl:l.length≤1000000000) (hs:zwz l):zwj l t=some (decide (t∈l)):=by rw [ydu,znq l _ (fun x=>decide (cmpT x t= .eq)) (by omega) (fun x hx=>(qpx x.1 x.2 t).trans (qzi x t (hs x hx))),Option.bind_some,xip]
theorem zne [Dfr] (p q:Tc) (hl:p.1.length+q.1.length≤1000000000):zjn p q=some (ziv p q):=by
 rw [qzd];unfold ziv;by_cases h:p.2=1
 ·have e:(p.2 != 1)=false:=by simp [h]
  rw [e,cond_false,zyg [p.1,q.1] (by simp only [zdb];omega) (by simp),if_pos h];simp
 ·have e:(p.2 != 1)=true:=by simpa using h
  rw [e,cond_true,zop p.1 (by omega),if_neg h];rfl
def qdu (a b:List ByteArray):Option (List (List ByteArray)):=if a.length+b.length≤1000000∧(zij [] a b).length≤1000000 then some (mixS a b) else none
class qnp [Dfr]:Prop where
 eq:∀a b,Dfr.d_trace_Mix a b=qdu a b
theorem yiu [Dfr] [qnp] (a b:List ByteArray) (h:a.length+b.length≤19):qpv a b=some (mixS a b):=by rw [ydt];show Dfr.d_trace_Mix a b=_;rw [qnp.eq];unfold qdu;have:=qci (D:=[]) h;rw [if_pos ⟨by omega,by omega⟩]
theorem qhu [Dfr] (e:Int) (xs:List (List ByteArray)) (hx:xs.length≤1000000000):∀(r:List (List ByteArray)) (i:Nat) (acc:List Tc),xs.drop i=r→acc.length≤i→zua e acc xs (xs.length:Int) (i:Int)=some (0,acc++r.map fun l=>(l,e))
 |[],i,acc,h,ha=>by obtain ⟨h1,h2⟩:=drop_nil h;rw [qas];simp only [h2,cond_false,List.map_nil,List.append_nil]
 |x::r,i,acc,h,ha=>by obtain ⟨h1,h2,h3,h4,h5,h6⟩:=zae h;rw [qas];simp only [h2,h3,h4,cond_true,room (show (acc.length+1)*32≤140737488355328 by omega),zbj (show i<9223372036854775807 by omega),qhu e xs hx r (i+1) (acc++[(x,e)]) h5 (by simp;omega),List.map_cons,List.append_assoc,List.singleton_append]
theorem qft [Dfr] [qnp] (p q:Tc) (h:p.1.length+q.1.length≤19):qau p q=some (parE (bs p.2 q.2) p.1 q.1):=by have hl:=qfd h;have e0:=qhu (bs p.2 q.2) (mixS p.1 q.1) (by omega) (mixS p.1 q.1) 0 [] rfl (by simp);rw [Int.natCast_zero] at e0;rw [yds,qqz,Option.bind_some,yiu _ _ h,Option.bind_some,e0];rfl
theorem qiu [Dfr] (xs ys:List ByteArray) (hx:xs.length≤4611686018427387904) (hy:ys.length≤4611686018427387904):∀(r s:List ByteArray) (i:Nat),xs.drop i=r→ys.drop i=s→i≤xs.length→i≤ys.length→
 ∃e n,zup xs ys 0 (i:Int)=some e∧(bif Nat.beq e.1 0 then (some (w64 ((e.2.1.length:Int)-(e.2.2.1.length:Int)))) else (some e.2.2.2))=some n∧(n<0↔cmpL cmpB r s= .lt)∧(0<n↔cmpL cmpB r s= .gt)
 |[],s,i,h,k,hi,hj=>by
  obtain ⟨h1,h2⟩:=drop_nil h;have hk:=congrArg List.length k;rw [List.length_drop] at hk;refine ⟨(0,(xs,ys,0)),(xs.length:Int)-(ys.length:Int),?_,?_,?_⟩
  ·rw [zkr];simp only [h2,cond_false]
  ·show some (w64 ((xs.length:Int)-(ys.length:Int)))=_;rw [zgz (by omega) (by omega)]
  ·cases s with
   |nil=>rw [List.length_nil] at hk;exact ⟨by simp [cmpL];omega,by simp [cmpL];omega⟩
   |cons y s=>rw [List.length_cons] at hk;exact ⟨by simp [cmpL];omega,by simp [cmpL];omega⟩
 |x::r,[],i,h,k,hi,hj=>by
  obtain ⟨h1,h2,h3,h4,h5,h6⟩:=zae h;obtain ⟨k1,k2⟩:=drop_nil k;refine ⟨(0,(xs,ys,0)),(xs.length:Int)-(ys.length:Int),?_,?_,?_⟩
  ·rw [zkr];simp only [h2,k2,cond_false,cond_true]
  ·show some (w64 ((xs.length:Int)-(ys.length:Int)))=_;rw [zgz (by omega) (by omega)]
  ·exact ⟨by simp [cmpL];omega,by simp [cmpL];omega⟩
 |x::r,y::s,i,h,k,hi,hj=>by
  obtain ⟨h1,h2,h3,h4,h5,h6⟩:=zae h;obtain ⟨k1,k2,k3,k4,k5,k6⟩:=zae k;obtain ⟨e,n,he,hn,hr⟩:=qiu xs ys hx hy r s (i+1) h5 k5 (by omega) (by omega);rw [cmpL];cases hc:cmpB x y with
  |lt=>refine ⟨(1,(xs,ys,-1)),-1,?_,rfl,by simp [Ordering.then],by simp [Ordering.then]⟩;rw [zkr];simp only [h2,h3,h4,k2,k3,k4,cond_true,qzs,hc,decide_true]
  |eq=>have exy:=(ordB.eq x y).1 hc;refine ⟨e,n,?_,hn,by simpa [Ordering.then] using hr⟩;rw [zkr];simp only [h2,h3,h4,k2,k3,k4,cond_true,qzs,hc,str_eq,exy,decide_true,Bool.or_true,Bool.not_true,cond_false,zbj (show i<9223372036854775807 by omega),he];simp [ordB.rfl']
  |gt=>
   have exy:x≠y:=fun e=>by rw [e,ordB.rfl'] at hc;cases hc
   refine ⟨(1,(xs,ys,1)),1,?_,rfl,by simp [Ordering.then],by simp [Ordering.then]⟩;rw [zkr];simp only [h2,h3,h4,k2,k3,k4,cond_true,qzs,hc,str_eq,exy,decide_false];rfl
theorem yka [Dfr] (xs ys:List ByteArray) (hx:xs.length≤4611686018427387904) (hy:ys.length≤4611686018427387904):∃n,qrz xs ys=some n∧(n<0↔cmpA xs ys= .lt)∧(0<n↔cmpA xs ys= .gt):=by obtain ⟨e,n,he,hn,hr⟩:=qiu xs ys hx hy xs ys 0 rfl rfl (by omega) (by omega);rw [Int.natCast_zero] at he;refine ⟨n,?_,hr⟩;rw [yga,he,Option.bind_some];exact hn
theorem qbw [Dfr] (x y:Tc) (hx:x.1.length≤4611686018427387904) (hy:y.1.length≤4611686018427387904):zrz x y=some (ordN (cmpT x y)):=by
 obtain ⟨n,hn,h1,h2⟩:=yka x.1 y.1 hx hy;rw [qnz,hn,Option.bind_some];show _=some (ordN (Ordering.then _ _));cases hc:cmpA x.1 y.1 with
 |lt=>
  have a:=h1.2 hc;have e:(n==0)=false:=by simp;omega
  simp only [e,cond_false,decide_eq_true a,cond_true];rfl
 |gt=>
  have a:=h2.2 hc;have e:(n==0)=false:=by simp;omega
  simp only [e,cond_false,decide_eq_false (show ¬n<0 by omega),decide_eq_true (show n>0 from a),cond_true];rfl
 |eq=>
  have a:n=0:=by
   have b1:¬n<0:=fun h=>by rw [h1,hc] at h;cases h
   have b2:¬0<n:=fun h=>by rw [h2,hc] at h;cases h
   omega
  subst a;show _=some (ordN (cmpI x.2 y.2));unfold cmpI;by_cases c1:x.2<y.2
  ·simp [c1,ordN]
  ·by_cases c2:x.2=y.2
   ·simp [c2,ordN]
   ·have c3:y.2<x.2:=by omega
    simp [c1,c2,c3,ordN]
theorem qey [Dfr] (xs ys:List Tc) (b:Bool) (hx:xs.length≤4611686018427387904) (hl:xs.length=ys.length) (sx:zwz xs) (sy:zwz ys):∀(r:List Tc) (i:Nat),xs.drop i=r→zry xs ys b (i:Int)=some (if r=ys.drop i then (0,b) else (1,false))
 |[],i,h=>by rw [qag];obtain ⟨h1,h2⟩:=drop_nil h;simp only [h2,cond_false,List.drop_eq_nil_of_le (show ys.length≤i by omega),if_true]
 |x::r,i,h=>by
  rw [qag];obtain ⟨h1,h2,h3,h4,h5,h6⟩:=zae h;cases hy:ys.drop i with
  |nil=>have:=List.drop_eq_nil_iff.1 hy;omega
  |cons y s=>
   obtain ⟨k1,k2,k3,k4,k5,k6⟩:=zae hy;have mx:x∈xs:=List.mem_of_mem_drop (by rw [h];exact List.mem_cons_self ..);have my:y∈ys:=List.mem_of_mem_drop (by rw [hy];exact List.mem_cons_self ..);have e0:(ordN (cmpT x y) != 0)= !decide (x=y):=by rw [←decide_eq_decide.2 (ordT.eq x y),←qpb];rfl
   simp only [h2,h3,h4,k3,k4,cond_true,qbw x y (sx x mx) (sy y my),Option.bind_some,e0,zbj (show i<9223372036854775807 by omega),qey xs ys b hx hl sx sy r (i+1) h5,k5];by_cases e:x=y
   ·simp [e]
   ·simp [e]
theorem yfz [Dfr] (xs ys:List Tc) (hx:xs.length≤4611686018427387904) (sx:zwz xs) (sy:zwz ys):qld xs ys=some (decide (xs=ys)):=by
 rw [ybt];by_cases hl:xs.length=ys.length
 ·have h1:((xs.length:Int) != (ys.length:Int))=false:=by simp [hl]
  have:=qey xs ys false hx hl sx sy xs 0 rfl;simp only [Int.natCast_zero,List.drop_zero] at this;simp only [h1,cond_false,this,Option.bind_some];by_cases e:xs=ys<;>simp [e,Nat.beq]
 ·have h1:((xs.length:Int) != (ys.length:Int))=true:=by simp;omega
  have h2:xs≠ys:=fun e=>hl (by rw [e])
  simp [h1,h2]
theorem ykb [Dfr] (a b:List ByteArray) (h:a.length+b.length≤1000000000):qsa a b=some (a++b):=by rw [ygb];rw [room (show (0+a.length)*16≤140737488355328 by omega),cond_true,List.nil_append,room (show (a.length+b.length)*16≤140737488355328 by omega),cond_true]
theorem zrp [Dfr] (s:Int):zov s=some (Tm.over s).row:=by rw [qvj];rfl
theorem zuj [Dfr] (s:Int) (c:Tm) (h:c.size≤50000):znl s c.row=some (Tm.fin s c).row:=by rw [yag,yfh _ _ (by rw [Tm.zab];omega)];rfl
theorem ykt [Dfr] (k:Int) (a b:Tm) (ha:a.size≤50000) (hb:b.size≤50000):zcf (nd k) [a.row,b.row]=some (nd k::(a.row++b.row)):=
 ytt _ _ _ (by rw [Tm.zab];omega) (by rw [Tm.zab];omega)
theorem qgx [Dfr] (m:Tm):zaa 0 m.row.length=true:=zax (by rw [Tm.zab];exact m.zdj)
theorem qgw [Dfr] (m:Tm):ix m.row 0=m.t.hd:=by obtain ⟨r,hr⟩:=T.xan m.t;unfold Tm.row;rw [hr];rfl
theorem zwb [Dfr] (s:Int) (c:Tm):cut (Tm.fin s c).row 1 ((Tm.fin s c).row.length:Int)=c.row:=by rw [show (1:Int)=((1:Nat):Int) from rfl,yda];rfl
theorem zmm [Dfr] (m:Tm):zbe 1 (m.row.length:Int) m.row.length=true:=by have:=m.zdj;rw [←Tm.zab] at this;exact zld (a:=1) (by omega) (Nat.le_refl _)
theorem qer [Dfr] (x c:Tm) (hx:x.size≤20000) (hc:c.size≤20000):zui x.row c.row=some (Tm.zlm x c).row:=by
 rw [qra];simp only [qgx,qgw,cond_true,zmm];have h13:zcf (13,ByteArray.empty,0) [x.row,c.row]=some (Tm.stack x c).row:=ykt 13 x c (by omega) (by omega);cases x<;>first|(simp only [h13];rfl)|skip
 rename_i s d;rw [Tm.zcn] at hx;have h5:zcf (5,ByteArray.empty,0) [d.row,c.row]=some (Tm.seq d c).row:=ykt 5 d c (by omega) (by omega);rw [zwb,h5];simp only [Option.bind_some];rw [zuj _ _ (by rw [Tm.zbf];omega)];rfl
theorem yeu [Dfr] (x y:Tm) (hx:x.size≤20000) (hy:y.size≤20000):qku (nd 7) x.row y.row=some (Tm.par' x y).row:=by
 rw [yaf];simp only [qgx,qgw,cond_true,zmm,qqz,Option.bind_some];have h7:zcf (nd 7) [x.row,y.row]=some (Tm.par x y).row:=ykt 7 x y (by omega) (by omega);cases x with
 |over s=>
  cases y with
  |over z=>rw [zrp];rfl
  |_=>simp only [h7];rfl
 |fin s c=>
  cases y with
  |fin z d=>rw [Tm.zcn] at hx hy;have h5:zcf (nd 7) [c.row,d.row]=some (Tm.par c d).row:=ykt 7 c d (by omega) (by omega);rw [zwb,zwb,h5];simp only [Option.bind_some];rw [zuj _ _ (by rw [Tm.zbv];omega)];rfl
  |_=>simp only [h7];rfl
 |_=>simp only [h7];cases y<;>rfl
theorem zvn [Dfr] (l:List Nd):zfp l=some (match l with|[n]=>if n.1=11 then (n.2.2,true) else (0,false)|_=>(0,false)):=by
 rw [qrc]
 match l with
 |[]=>rfl
 |[n]=>
  simp only [show ((([n]:List Nd).length:Int) != 1)=false from rfl,cond_false,show zaa 0 ([n]:List Nd).length=true from rfl,cond_true,show ix [n] 0=n from rfl];by_cases h:n.1=11
  ·simp [h]
  ·have:(n.1 != 11)=true:=by simpa using h
   simp [this,h]
 |a::b::r=>
  have:(((a::b::r).length:Int) != 1)=true:=by simp only [List.length_cons,bne_iff_ne,ne_eq];omega
  rw [this];rfl
def ended (m:Tm):Int×Bool:=match m with| .over s=>(s,true)|_=>(0,false)
theorem zjo [Dfr] (m:Tm):zfp m.row=some (ended m):=by
 rw [zvn];have two:∀(n:Nd) (a:Tm),(match n::a.row with|[n]=>if n.1=11 then (n.2.2,true) else (0,false)|_=>((0:Int),false))=(0,false):=fun n a=>by
  have:=a.qxi;cases h:a.row with
  |nil=>exact absurd h this
  |cons _ _=>rfl
 have three:∀(n:Nd) (a b:Tm),(match n::(a.row++b.row) with|[n]=>if n.1=11 then (n.2.2,true) else (0,false)|_=>((0:Int),false))=(0,false):=fun n a b=>by
  have:=a.qxi;cases h:a.row with
  |nil=>exact absurd h this
  |cons _ _=>rfl
 cases m<;>first|rfl|exact congrArg some (two _ _)|exact congrArg some (three _ _ _)
theorem xac [Dfr]:∀(n:Nat) (m:Tm),m.size≤n→n≤10000→zce m.row=some m.st.row:=by
 intro n
 induction n with
 |zero=>intro m h;have:=m.zdj;omega
 |succ n ih=>
  intro m h hn;rw [qnu];simp only [qgx,qgw,cond_true];cases m with
  |act s=>rw [qtg (.act s) rfl (by omega)];rw [Tm.qba];rfl
  |yield=>rw [qtg .yield rfl (by omega)];rw [Tm.zmn];rfl
  |over s=>rw [qtg (.over s) rfl (by omega)];rw [Tm.zhx];rfl
  |skip=>rw [qtg .skip rfl (by omega),Tm.zsr];simp only [zrp];rfl
  |throw=>rw [qtg .throw rfl (by omega),Tm.zpj];simp only [zrp];rfl
  |alt a b=>rw [qgu (.alt a b) rfl (by omega),Tm.qia];rfl
  |pair a b=>rw [qgu (.pair a b) rfl (by omega),Tm.zya];rfl
  |fin s a=>rw [yqq (.fin s a) rfl (by omega),Tm.zre];rfl
  |hand a b=>
   rw [Tm.zbk] at h;have ha:=ih a (by omega) (by omega);have hb:=ih b (by omega) (by omega);have hsa:=a.zcd;rw [qgu (.hand a b) rfl (by rw [Tm.zbk];omega),Tm.zve];simp only [Option.bind_some,show ix [a.row,b.row] 0=a.row from rfl,show ix [a.row,b.row] 1=b.row from rfl,show zaa 0 [a.row,b.row].length=true from rfl,show zaa 1 [a.row,b.row].length=true from rfl,ha,show (Tm.hand a b).t.hd=nd 8 from rfl,cond_true,cond_false,show (((nd 8).1:Int)==2)=false from rfl,show (((nd 8).1:Int)==3)=false from rfl,show (((nd 8).1:Int)==8)=true from rfl];rw [zqr];simp only [qgx,qgw,cond_true];generalize a.st=x at hsa;have h8:zcf (nd 8) [x.row,b.row]=some (Tm.hand x b).row:=ykt 8 x b (by omega) (by omega);cases x<;>first|(simp only [h8];rfl)|skip
   rename_i s;simp only [Tm.hand',Tm.t,T.hd];by_cases hz:s=2
   ·subst hz;simp only [hb,if_true,emp];rfl
   ·simp only [if_neg hz,int_eq,hz,decide_false,Bool.and_false,cond_false];rfl
  |seq a b=>
   rw [Tm.zbf] at h;have ha:=ih a (by omega) (by omega);have hb:=ih b (by omega) (by omega);have hsa:=a.zcd;have hsb:=b.zcd;rw [qgu (.seq a b) rfl (by rw [Tm.zbf];omega),Tm.zzy];simp only [Option.bind_some,show ix [a.row,b.row] 0=a.row from rfl,show ix [a.row,b.row] 1=b.row from rfl,show zaa 0 [a.row,b.row].length=true from rfl,show zaa 1 [a.row,b.row].length=true from rfl,ha,hb,show (Tm.seq a b).t.hd=nd 5 from rfl,cond_true,cond_false,show (((nd 5).1:Int)==2)=false from rfl,show (((nd 5).1:Int)==3)=false from rfl,show (((nd 5).1:Int)==8)=false from rfl,show (((nd 5).1:Int)==5)=true from rfl,qgx,qgw];generalize a.st=x at hsa;have h5:zcf (nd 5) [x.row,b.row]=some (Tm.seq x b).row:=ykt 5 x b (by omega) (by omega);cases x with
   |fin s c=>
    simp only [Tm.seq',Tm.t,T.hd,show ((14:Int) != 14)=false from rfl,cond_false];by_cases hz:s=1
    ·subst hz;rw [Tm.zcn] at hsa;have hss:=qer b.st c (by omega) (by omega);simp only [show ((1:Int) != 1)=false from rfl,cond_false,if_true,zmm,cond_true,zwb,hss,Option.bind_some]
    ·have:(s != 1)=true:=by simpa using hz
     simp only [this,cond_true,if_neg hz]
   |over s=>
    rw [zqr];simp only [qgx,qgw,cond_true,Tm.seq',Tm.t,T.hd];by_cases hz:s=1
    ·subst hz;simp only [hb,if_true,emp];rfl
    ·simp only [if_neg hz,int_eq,hz,decide_false,Bool.and_false,cond_false];rfl
   |_=>rw [zqr];simp only [qgx,qgw,cond_true,h5];rfl
  |stack a c=>rw [Tm.zcx] at h;have ha:=ih a (by omega) (by omega);have hsa:=a.zcd;have hss:=qer a.st c (by omega) (by omega);rw [qgu (.stack a c) rfl (by rw [Tm.zcx];omega),Tm.zmo];simp only [Option.bind_some,show ix [a.row,c.row] 0=a.row from rfl,show ix [a.row,c.row] 1=c.row from rfl,show zaa 0 [a.row,c.row].length=true from rfl,show zaa 1 [a.row,c.row].length=true from rfl,ha,hss];rfl
  |going a b=>
   rw [Tm.zca] at h;have ha:=ih a (by omega) (by omega);have hsa:=a.zcd;rw [qgu (.going a b) rfl (by rw [Tm.zca];omega),Tm.zns];simp only [Option.bind_some,show ix [a.row,b.row] 0=a.row from rfl,show ix [a.row,b.row] 1=b.row from rfl,show zaa 0 [a.row,b.row].length=true from rfl,show zaa 1 [a.row,b.row].length=true from rfl,ha,zjo,show (Tm.going a b).t.hd=nd 12 from rfl,cond_true];generalize a.st=x at hsa;have h12:zcf (nd 12) [x.row,b.row]=some (Tm.going x b).row:=ykt 12 x b (by omega) (by omega);cases x<;>first|(simp only [h12,ended];rfl)|skip
   rename_i s;simp only [Tm.qcq,ended];by_cases hz:s=1
   ·subst hz;simp only [zuj 1 b (by omega),if_true];rfl
   ·have e1:(s != 1)=true:=by simpa using hz
    have e2:znl s [nd 2]=some (Tm.fin s .skip).row:=zuj s .skip (by decide);have e3:ix ([a.row,b.row].set 1 [(2,ByteArray.empty,0)]) 1=[nd 2]:=rfl;have e4:zaa 1 ([a.row,b.row].set 1 [(2,ByteArray.empty,0)]).length=true:=rfl;simp only [e1,e3,e4,e2,if_neg hz,cond_true];rfl
  |par a b=>rw [Tm.zbv] at h;have ha:=ih a (by omega) (by omega);have hb:=ih b (by omega) (by omega);have hsa:=a.zcd;have hsb:=b.zcd;have hp:=yeu a.st b.st (by omega) (by omega);rw [qgu (.par a b) rfl (by rw [Tm.zbv];omega),Tm.zpx];simp only [Option.bind_some,show ix [a.row,b.row] 0=a.row from rfl,show ix [a.row,b.row] 1=b.row from rfl,show zaa 0 [a.row,b.row].length=true from rfl,show zaa 1 [a.row,b.row].length=true from rfl,ha,hb,show (Tm.par a b).t.hd=nd 7 from rfl,hp];rfl
  |block a=>
   rw [Tm.zav] at h;have ha:=ih a (by omega) (by omega);have hsa:=a.zcd;rw [yqq (.block a) rfl (by rw [Tm.zav];omega),Tm.znt];simp only [Option.bind_some,show ix [a.row] 0=a.row from rfl,show zaa 0 [a.row].length=true from rfl,ha,show (Tm.block a).t.hd=nd 9 from rfl,cond_true];rw [qrb];simp only [qgx,qgw,cond_true];generalize a.st=x at hsa;have h9:zcf (nd 9) [x.row]=some (Tm.block x).row:=yfh _ _ (by rw [Tm.zab];omega);cases x<;>first|(simp only [h9];rfl)|skip
   rename_i s c;rw [Tm.zcn] at hsa;have hc:=ih c (by omega) (by omega);simp only [Tm.block',Tm.t,T.hd];by_cases hz:s=1
   ·subst hz;simp only [zrp,if_true,emp];rfl
   ·by_cases hz2:s=2
    ·subst hz2;simp only [zmm,zwb,hc,emp];rfl
    ·simp only [if_neg hz,if_neg hz2,int_eq,hz,hz2,decide_false,Bool.and_false,cond_false,h9];rfl
noncomputable def zbp (l:List Nd):List Nd:=match tmOf l with|some m=>if m.po=true∨m.qo=true then m.st.row else []|none=>[]
theorem xlj [Dfr] (m:Tm):on m.so=4↔m.qo=true:=by rw [Tm.xjn];simp
theorem xlk [Dfr] (m:Tm):on m.so=3↔m.po=true:=by rw [Tm.ysz];simp
theorem zta [Dfr] (l:List Nd) (hl:l.length≤4611686018427387904):znw l=some (zbp l):=by
 rw [qnv];simp only [qqo l _ hl,Option.bind_some];unfold zbp sOf;cases h:tmOf l with
 |none=>rfl
 |some m=>obtain ⟨rfl,h2,h3⟩:=zjg.1 h;have hs:=xac m.size m (Nat.le_refl _) (by omega);have hsz:=m.zcd;have e1:decide ((m.st.row.length:Int)>200)=false:=decide_eq_false (by rw [Tm.zab];omega);have e2:zai (0+m.st.row.length) 32=true:=room (by rw [Tm.zab];omega);simp only [hs,Option.bind_some,e1,e2,cond_true,cond_false,List.nil_append,xlj,xlk,if_true,if_false,Bool.false_eq_true];cases h1:m.po<;>cases h2:m.qo<;>simp
theorem zmp [Dfr] (l:List Nd) (hl:l.length≤4611686018427387904):zmd l=some (decide (l≠[]∧zbp l=l)):=by
 rw [qkv];cases l with
 |nil=>rfl
 |cons x r=>
  have e1:decide (((x::r).length:Int)>0)=true:=decide_eq_true (by simp only [List.length_cons];omega);have hlen:(zbp (x::r)).length≤4611686018427387904:=by
   unfold zbp;split
   ·rename_i m hm;split
    ·have:=m.zcd;have:=(zjg.1 hm).2.2;rw [Tm.zab];omega
    ·simp
   ·simp
  simp only [e1,cond_true,zta _ hl,Option.bind_some,ypq _ _ hlen];simp
theorem qvk [Dfr] (l:List Nd) (hl:l.length≤4611686018427387904):qbh l=some (if zzz l then zbp l else []):=by rw [qrd];simp only [yen l hl,zta l hl,Option.bind_some];cases zzz l<;>rfl
theorem zir [Dfr] (k s:Int):zbi k s=some (k,ByteArray.empty,s):=by rw [ybj]
theorem zun [Dfr] (s:Int):zsi s=some (Tm.over s).row:=by rw [ybi,zir];rfl
theorem zyy [Dfr] (s:Int) (c:Tm) (h:c.size≤100000):zob s c.row=some (Tm.fin s c).row:=by rw [yfv,zir];simp only [Option.bind_some];rw [zzb _ _ (by rw [Tm.zab];omega)];rfl
theorem yit [Dfr] (k:Int) (a b:Tm) (ha:a.size≤100000) (hb:b.size≤100000):zbo (nd k) a.row b.row=some (nd k::(a.row++b.row)):=
 qry _ _ _ (by rw [Tm.zab];omega) (by rw [Tm.zab];omega)
theorem yjx [Dfr] (x y:Tm) (hx:x.size≤20000) (hy:y.size≤20000):qrv x.row y.row=some (Tm.par' x y).row:=by
 rw [yfu];simp only [qgx,qgw,cond_true,zmm,ygc,Option.bind_some,zir];have h7:zbo (7,ByteArray.empty,0) x.row y.row=some (Tm.par x y).row:=yit 7 x y (by omega) (by omega);cases x with
 |over s=>
  cases y with
  |over z=>rw [zun];rfl
  |_=>simp only [h7];rfl
 |fin s c=>
  cases y with
  |fin z d=>rw [Tm.zcn] at hx hy;have h5:zbo (7,ByteArray.empty,0) c.row d.row=some (Tm.par c d).row:=yit 7 c d (by omega) (by omega);rw [zwb,zwb,h5];simp only [Option.bind_some];rw [zyy _ _ (by rw [Tm.zbv];omega)];rfl
  |_=>simp only [h7];rfl
 |_=>simp only [h7];cases y<;>rfl
theorem qir [Dfr] (x c:Tm) (hx:x.size≤20000) (hc:c.size≤20000) (hq:x.qo=true):zhi 13 x.row c.row=some (Tm.zlm x c).row:=by
 rw [zpl];simp only [qgx,qgw,cond_true,zmm,zir,Option.bind_some];have h13:zbo (13,ByteArray.empty,0) x.row c.row=some (Tm.stack x c).row:=yit 13 x c (by omega) (by omega);cases x<;>first|(cases hq;done)|(simp only [h13];rfl)|skip
 rename_i s d;rw [Tm.zcn] at hx;have h5:zbo (5,ByteArray.empty,0) d.row c.row=some (Tm.seq d c).row:=yit 5 d c (by omega) (by omega);have he:=zyy s (Tm.seq d c) (by rw [Tm.zbf];omega);rw [zwb,h5];simp only [Option.bind_some,Tm.t,T.hd,he];rfl
theorem xjc [Dfr]:∀(n:Nat) (m:Tm),m.size≤n→n≤10000→(m.po=true∨m.qo=true)→zbu m.row=some m.st.row:=by
 intro n
 induction n with
 |zero=>intro m h;have:=m.zdj;omega
 |succ n ih=>
  intro m h hn hon;rw [ybk];simp only [qgx,qgw,cond_true];cases m with
  |act s=>rw [qxk (.act s) rfl (by omega)];rw [Tm.qba];rfl
  |yield=>rw [qxk .yield rfl (by omega)];rw [Tm.zmn];rfl
  |over s=>rw [qxk (.over s) rfl (by omega)];rw [Tm.zhx];rfl
  |skip=>rw [qxk .skip rfl (by omega),Tm.zsr];simp only [zun];rfl
  |throw=>rw [qxk .throw rfl (by omega),Tm.zpj];simp only [zun];rfl
  |alt a b=>rw [qms (.alt a b) rfl (by omega),Tm.qia];rfl
  |pair a b=>rw [qms (.pair a b) rfl (by omega),Tm.zya];rfl
  |fin s a=>rw [ynd (.fin s a) rfl (by omega),Tm.zre];rfl
  |hand a b=>
   rw [Tm.zbk] at h;have hs:a.po=true∧b.pl=true:=by
    rcases hon with h1|h1
    ·simpa only [Tm.po,Bool.and_eq_true] using h1
    ·cases h1
   have ha:=ih a (by omega) (by omega) (.inl hs.1);have hb:=ih b (by omega) (by omega) (.inl (Tm.zcg hs.2));have hsa:=a.zcd;have hpo:=Tm.qnr hs.1;rw [qms (.hand a b) rfl (by rw [Tm.zbk];omega),Tm.zve];simp only [Option.bind_some,show ix [a.row,b.row] 0=a.row from rfl,show ix [a.row,b.row] 1=b.row from rfl,show zaa 0 [a.row,b.row].length=true from rfl,show zaa 1 [a.row,b.row].length=true from rfl,ha,show (Tm.hand a b).t.hd=nd 8 from rfl,cond_true,cond_false,show (((nd 8).1:Int)==2)=false from rfl,show (((nd 8).1:Int)==3)=false from rfl,show (((nd 8).1:Int)==5)=false from rfl,show (((nd 8).1:Int)==8)=true from rfl,show ((nd 8).1:Int)=8 from rfl];rw [zpl];simp only [qgx,qgw,cond_true,zmm,zir,Option.bind_some];generalize a.st=x at hsa hpo;have h8:zbo (8,ByteArray.empty,0) x.row b.row=some (Tm.hand x b).row:=yit 8 x b (by omega) (by omega)
   cases x<;>first|(cases hpo;done)|(simp only [h8];rfl)|skip
   rename_i s;simp only [Tm.hand',Tm.t,T.hd];by_cases hz:s=2
   ·subst hz;simp only [hb,if_true,emp];rfl
   ·simp only [if_neg hz,int_eq,hz,decide_false,cond_false];rfl
  |seq a b=>
   rw [Tm.zbf] at h;have hsa:=a.zcd;have hsb:=b.zcd;have hs:(a.po=true∧b.pl=true)∨(a.qo=true∧b.pa=true):=by
    rcases hon with h1|h1
    ·left;simpa only [Tm.po,Bool.and_eq_true] using h1
    ·right;simpa only [Tm.qo,Bool.and_eq_true] using h1
   have ha:=ih a (by omega) (by omega) (hs.imp (·.1) (·.1))
   have hb:=ih b (by omega) (by omega) (hs.imp (fun h=>Tm.zcg h.2) (fun h=>Tm.zja h.2));have hpo:(a.st.po=true∧b.pl=true)∨(a.st.qo=true∧b.st.qo=true):=hs.imp (fun h=>⟨Tm.qnr h.1,h.2⟩) (fun h=>⟨Tm.qzw h.1,Tm.qzw (Tm.zja h.2)⟩);rw [qms (.seq a b) rfl (by rw [Tm.zbf];omega),Tm.zzy];simp only [Option.bind_some,show ix [a.row,b.row] 0=a.row from rfl,show ix [a.row,b.row] 1=b.row from rfl,show zaa 0 [a.row,b.row].length=true from rfl,show zaa 1 [a.row,b.row].length=true from rfl,ha,show (Tm.seq a b).t.hd=nd 5 from rfl,cond_true,cond_false,show (((nd 5).1:Int)==2)=false from rfl,show (((nd 5).1:Int)==3)=false from rfl,show (((nd 5).1:Int)==5)=true from rfl,show ((nd 5).1:Int)=5 from rfl];rw [zpl];simp only [qgx,qgw,cond_true,zmm,zir,Option.bind_some,hb];generalize a.st=x at hsa hpo;have h5:zbo (5,ByteArray.empty,0) x.row b.row=some (Tm.seq x b).row:=yit 5 x b (by omega) (by omega)
   cases x<;>first|(simp only [h5];rfl)|skip
   ·rename_i s;simp only [Tm.seq',Tm.t,T.hd];by_cases hz:s=1
    ·subst hz;simp only [if_true];rfl
    ·simp only [if_neg hz,int_eq,hz,decide_false,cond_false];rfl
   ·rename_i s c;rw [Tm.zcn] at hsa;have hq:b.st.qo=true:=by
     rcases hpo with h1|h1
     ·cases h1.1
     ·exact h1.2
    have hf:=qir b.st c (by omega) (by omega) hq;simp only [Tm.seq',Tm.t,T.hd];by_cases hz:s=1
    ·subst hz;rw [zwb,hf];simp only [if_true];rfl
    ·simp only [if_neg hz,int_eq,hz,decide_false,cond_false];rfl
  |stack a c=>
   rw [Tm.zcx] at h;have hs:a.qo=true∧c.pl=true:=by
    rcases hon with h1|h1
    ·cases h1
    ·simpa only [Tm.qo,Bool.and_eq_true] using h1
   have ha:=ih a (by omega) (by omega) (.inr hs.1);have hsa:=a.zcd;have hf:=qir a.st c (by omega) (by omega) (Tm.qzw hs.1);rw [qms (.stack a c) rfl (by rw [Tm.zcx];omega),Tm.zmo];simp only [Option.bind_some,show ix [a.row,c.row] 0=a.row from rfl,show ix [a.row,c.row] 1=c.row from rfl,show zaa 0 [a.row,c.row].length=true from rfl,show zaa 1 [a.row,c.row].length=true from rfl,ha,show (Tm.stack a c).t.hd=nd 13 from rfl,show ((nd 13).1:Int)=13 from rfl,hf];rfl
  |going a b=>
   rw [Tm.zca] at h;have hs:a.po=true∧b.pl=true:=by
    rcases hon with h1|h1
    ·cases h1
    ·simpa only [Tm.qo,Bool.and_eq_true] using h1
   have ha:=ih a (by omega) (by omega) (.inl hs.1);have hsa:=a.zcd;have hpo:=Tm.qnr hs.1;rw [qms (.going a b) rfl (by rw [Tm.zca];omega),Tm.zns];simp only [Option.bind_some,show ix [a.row,b.row] 0=a.row from rfl,show ix [a.row,b.row] 1=b.row from rfl,show zaa 0 [a.row,b.row].length=true from rfl,show zaa 1 [a.row,b.row].length=true from rfl,ha,show (Tm.going a b).t.hd=nd 12 from rfl,cond_true,cond_false,show (((nd 12).1:Int)==2)=false from rfl,show (((nd 12).1:Int)==3)=false from rfl,show (((nd 12).1:Int)==5)=false from rfl,show (((nd 12).1:Int)==8)=false from rfl,show (((nd 12).1:Int)==12)=true from rfl,show ((nd 12).1:Int)=12 from rfl];rw [zpl];simp only [qgx,qgw,cond_true,zmm,zir,Option.bind_some];generalize a.st=x at hsa hpo;have h12:zbo (12,ByteArray.empty,0) x.row b.row=some (Tm.going x b).row:=yit 12 x b (by omega) (by omega)
   cases x<;>first|(cases hpo;done)|(simp only [h12];rfl)|skip
   rename_i s;simp only [Tm.qcq,Tm.t,T.hd];have e1:=zyy 1 b (by omega);have e2:zob s [(2,ByteArray.empty,0)]=some (Tm.fin s .skip).row:=zyy s .skip (by decide);by_cases hz:s=1
   ·subst hz;simp only [e1,if_true];rfl
   ·simp only [e2,if_neg hz,int_eq,hz,decide_false,cond_false];rfl
  |par a b=>
   rw [Tm.zbv] at h;have hs:(a.po=true∧b.po=true)∨(a.qo=true∧b.qo=true):=by
    rcases hon with h1|h1
    ·left;simpa only [Tm.po,Bool.and_eq_true] using h1
    ·right;simpa only [Tm.qo,Bool.and_eq_true] using h1
   have ha:=ih a (by omega) (by omega) (hs.imp (·.1) (·.1))
   have hb:=ih b (by omega) (by omega) (hs.imp (·.2) (·.2))
   have hsa:=a.zcd;have hsb:=b.zcd;have hp:=yjx a.st b.st (by omega) (by omega);rw [qms (.par a b) rfl (by rw [Tm.zbv];omega),Tm.zpx];simp only [Option.bind_some,show ix [a.row,b.row] 0=a.row from rfl,show ix [a.row,b.row] 1=b.row from rfl,show zaa 0 [a.row,b.row].length=true from rfl,show zaa 1 [a.row,b.row].length=true from rfl,ha,hb,show (Tm.par a b).t.hd=nd 7 from rfl,hp];rfl
  |block a=>
   rw [Tm.zav] at h;have hs:a.qo=true:=by
    rcases hon with h1|h1
    ·exact h1
    ·cases h1
   have ha:=ih a (by omega) (by omega) (.inr hs);have hsa:=a.zcd;have hq:=Tm.qzw hs;rw [ynd (.block a) rfl (by rw [Tm.zav];omega),Tm.znt];simp only [Option.bind_some,show ix [a.row] 0=a.row from rfl,show zaa 0 [a.row].length=true from rfl,ha,show (Tm.block a).t.hd=nd 9 from rfl,cond_true];rw [qvo];simp only [qgx,qgw,cond_true,zir,Option.bind_some];generalize a.st=x at hsa hq;have h9:zjl (9,ByteArray.empty,0) x.row=some (Tm.block x).row:=zzb _ _ (by rw [Tm.zab];omega);cases x<;>first|(cases hq;done)|(simp only [h9];rfl)|skip
   rename_i s c;rw [Tm.zcn] at hsa;have hc:=ih c (by omega) (by omega) (.inl (Tm.zcg hq));simp only [Tm.block',Tm.t,T.hd];by_cases hz:s=1
   ·subst hz;simp only [zun,if_true];rfl
   ·by_cases hz2:s=2
    ·subst hz2;simp only [zmm,zwb,hc,emp];rfl
    ·simp only [if_neg hz,if_neg hz2,int_eq,hz,hz2,decide_false,cond_false,h9];rfl
theorem ysy [Dfr] (m:Tm):m.so=0↔¬(m.po=true∨m.qo=true):=by rcases Tm.cls m with ⟨e,e1,e2,e3,e4⟩|⟨e,e1,e2,e3,e4⟩|⟨e,e1,e2,e3,e4⟩|⟨e,e1,e2,e3,e4⟩|⟨e,e1,e2,e3,e4⟩<;>simp [e,e3,e4]
theorem zvt [Dfr] (l:List Nd) (hl:l.length≤4611686018427387904) (hn:∀n∈l,n.2.1.size≤9223372036854775807):znn l=some (zbp l):=by
 rw [qrx];simp only [qxo l hl hn,Option.bind_some];unfold zbp sOf;cases h:tmOf l with
 |none=>rfl
 |some m=>
  obtain ⟨rfl,h2,h3⟩:=zjg.1 h;have hsz:=m.zcd;have e1:decide ((m.st.row.length:Int)>200)=false:=decide_eq_false (by rw [Tm.zab];omega);simp only [int_eq];by_cases hz:m.so=0
  ·rw [decide_eq_true hz,if_neg ((ysy m).1 hz)];rfl
  ·have hon:m.po=true∨m.qo=true:=Decidable.byContradiction fun h=>hz ((ysy m).2 h)
   rw [decide_eq_false hz,if_pos hon];simp only [cond_false,xjc m.size m (Nat.le_refl _) (by omega) hon,Option.bind_some,e1]
theorem ybl [Dfr] (l:List Nd) (hl:l.length≤4611686018427387904) (hn:∀n∈l,n.2.1.size≤9223372036854775807):qgk l=some (if zzz l then zbp l else []):=by rw [qvp];simp only [ybm l hl hn,zvt l hl hn,Option.bind_some];cases zzz l<;>rfl
end Go.Proofs.YtjolkdjkhekbnaaGreatDoor.Sv
