/- Traces: what the documents says of them, in plain Lean; no program in sight. -/
import Derived.Test.YtjolkdjkhekbnaaGreatDoorM6
import Derived.Test.YtjolkdjkhekbnaaGreatDoorSvM
import Derived.Test.YtjolkdjkhekbnaaGreatDoorSvK
namespace Go.Rd
open Go Go.Sv
def zlc (p q:Tc):Tc:=if p.2=1 then (p.1++q.1,q.2) else p
def zfg:List ByteArray→List ByteArray→List ByteArray→List (List ByteArray)
 |D,[],[]=>[D]
 |D,x::p,[]=>zfg (D++[x]) p []
 |D,[],y::q=>zfg (D++[y]) [] q
 |D,x::p,y::q=>zfg (D++[x]) p (y::q)++zfg (D++[y]) (x::p) q
termination_by _ p q=>p.length+q.length
inductive Mx {α:Type}:List α→List α→List α→Prop where
 |nil:Mx [] [] []
 |l {x:α} {p q r:List α}:Mx p q r→Mx (x::p) q (x::r)
 |r {y:α} {p q r:List α}:Mx p q r→Mx p (y::q) (y::r)
namespace Mx
variable {α:Type}
theorem right:∀(q:List α),Mx [] q q
 |[]=>.nil
 |y::q=>.r (right q)
theorem left:∀(p:List α),Mx p [] p
 |[]=>.nil
 |y::q=>.l (left q)
theorem qjl {q r:List α} (h:Mx [] q r):r=q:=by
 generalize hp:([]:List α)=p at h
 induction h with
 |nil=>rfl
 |l _ _=>cases hp
 |r _ ih=>rw [ih hp]
theorem yfj {q r:List α} (h:Mx q [] r):r=q:=by
 generalize hp:([]:List α)=p at h
 induction h with
 |nil=>rfl
 |l _ ih=>rw [ih hp]
 |r _ _=>cases hp
theorem symm {p q r:List α} (h:Mx p q r):Mx q p r:=by
 induction h with
 |nil=>exact .nil
 |l _ ih=>exact .r ih
 |r _ ih=>exact .l ih
theorem len {p q r:List α} (h:Mx p q r):r.length=p.length+q.length:=by
 induction h with
 |nil=>rfl
 |l _ ih=>simp only [List.length_cons,ih];omega
 |r _ ih=>simp only [List.length_cons,ih];omega
theorem sub {p q r:List α} (h:Mx p q r):p.Sublist r:=by
 induction h with
 |nil=>exact .slnil
 |l _ ih=>exact ih.cons_cons _
 |r _ ih=>exact ih.cons _
end Mx
theorem zqf:∀{D p q x:List ByteArray},x∈zfg D p q↔∃r,x=D++r∧Mx p q r
 |D,[],[],x=>by
  rw [zfg,List.mem_singleton]
  exact ⟨fun h=>⟨[],by simp [h],.nil⟩,fun ⟨r,h,hr⟩=>by rw [hr.qjl] at h;simpa using h⟩
 |D,a::p,[],x=>by
  rw [zfg,zqf]
  constructor
  ·rintro ⟨r,rfl,hr⟩
   exact ⟨a::r,by simp,.l hr⟩
  ·rintro ⟨r,rfl,hr⟩
   rw [hr.yfj]
   exact ⟨p,by simp,.left p⟩
 |D,[],b::q,x=>by
  rw [zfg,zqf]
  constructor
  ·rintro ⟨r,rfl,hr⟩
   exact ⟨b::r,by simp,.r hr⟩
  ·rintro ⟨r,rfl,hr⟩
   rw [hr.qjl]
   exact ⟨q,by simp,.right q⟩
 |D,a::p,b::q,x=>by
  rw [zfg,List.mem_append,zqf,zqf]
  constructor
  ·rintro (⟨r,rfl,hr⟩|⟨r,rfl,hr⟩)
   ·exact ⟨a::r,by simp,.l hr⟩
   ·exact ⟨b::r,by simp,.r hr⟩
  ·rintro ⟨r,rfl,hr⟩
   cases hr with
   |l hr=>exact .inl ⟨_,by simp,hr⟩
   |r hr=>exact .inr ⟨_,by simp,hr⟩
termination_by _ p q=>p.length+q.length
def chN:Nat→Nat→Nat
 |0,_=>1
 |_+1,0=>1
 |m+1,n+1=>chN m (n+1)+chN (m+1) n
theorem zrx (m:Nat):chN m 0=1:=by cases m<;>rw [chN]
theorem ziq:∀(D p q:List ByteArray),(zfg D p q).length=chN p.length q.length
 |D,[],[]=>by rw [zfg];simp [chN]
 |D,x::p,[]=>by rw [zfg,ziq _ p []];simp [zrx]
 |D,[],y::q=>by rw [zfg,ziq _ [] q];simp [chN]
 |D,x::p,y::q=>by rw [zfg,List.length_append,ziq,ziq];simp [chN]
termination_by _ p q=>p.length+q.length
def mixS (a b:List ByteArray):List (List ByteArray):=canon cmpA (zfg [] a b)
theorem qyb {a b x:List ByteArray}:x∈mixS a b↔Mx a b x:=by
 unfold mixS
 rw [zbn ordA,zqf]
 exact ⟨fun ⟨r,h,hr⟩=>by rw [h];exact hr,fun h=>⟨x,rfl,h⟩⟩
def parE (e:Int) (p q:List ByteArray):List Tc:=(mixS p q).map fun l=>(l,e)
theorem zyz {e:Int} {p q:List ByteArray} {x:Tc}:x∈parE e p q↔Mx p q x.1∧x.2=e:=by
 unfold parE
 rw [List.mem_map]
 constructor
 ·rintro ⟨l,h,rfl⟩
  exact ⟨qyb.1 h,rfl⟩
 ·rintro ⟨h,rfl⟩
  exact ⟨x.1,qyb.2 h,rfl⟩
end Go.Rd
namespace Go.Proofs.YtjolkdjkhekbnaaGreatDoor.Sv
open Go Go.Sv Go.Proofs Go.Rd
set_option maxRecDepth 100000
def mixH (N:Nat) (D p q:List ByteArray) (xs:List (List ByteArray)):Option (List (List ByteArray)) :=
 if p.length+q.length<N∧D.length+p.length+q.length≤1000000∧xs.length+(zfg D p q).length≤1000000 then some (xs++zfg D p q) else none
theorem yrh [Dfr] {G:PinF} (hp:qtp Tryz.prog (Es G)):zvf Tryz.prog (Es G) :=
 ⟨tab.mixed,⟨fun t i h=>tab.types.ti t i h⟩,⟨tab.elems.row,tab.elems.el,tab.elems.arr⟩,fun f b e u h=>have r:=tab.rows f b e u h;⟨r.call,r.none,r.sort,r.compact⟩,hp,fun f e u h=>tab.revs f e u h⟩
theorem yri [Dfr] [zcx] {G:PinF}:zsh Tryz.prog (Es G) (run E 1):=fun f x r h=>by
 obtain ⟨h1,h2⟩:=zkt qvy 1 f x r h
 exact ⟨h1,fun w F0 G A vs hA=>h2 w F0 G A vs ⟨hA.rel,hA.bx,hA.tgm,hA.tgi,hA.f0,hA.glob⟩⟩
theorem zqa [Dfr] {n b:Nat} (h:n≤1000001) (hb:b≤24):zav n b=true:=by
 unfold zav
 refine decide_eq_true ?_
 have:n*b≤1000001*24:=Nat.mul_le_mul h hb
 omega
theorem qwh [Dfr] {α:Type} (D:List α):cut D 0 (D.length:Int)=D:=by simp [cut]
theorem yhf [Dfr] {α:Type} (x:α) (p:List α):cut (x::p) 1 ((x::p).length:Int)=p:=by simp [cut]
theorem qhy [Dfr] {n:Nat}:zcc 0 (n:Int) n=true:=by simp [zcc]
theorem zzs [Dfr] {n:Nat} (h:1≤n):zcc 1 (n:Int) n=true:=by simp [zcc];omega
theorem qok [Dfr] {n:Nat} (h:1≤n):zaa 0 n=true:=by simp [zaa];omega
theorem qdf [Dfr] (D p q:List ByteArray):1≤(zfg D p q).length:=by
 rw [ziq]
 have:∀m n,1≤chN m n:=fun m=>by
  induction m with
  |zero=>intro n;rw [chN];omega
  |succ m ih=>intro n;cases n with
   |zero=>rw [chN];omega
   |succ n=>rw [chN];have:=ih (n+1);omega
 exact this _ _
theorem yvk [Dfr] {N:Nat} {D p q:List ByteArray} {xs ys:List (List ByteArray)} (h:mixH (N+1) D p q xs=some ys):∃tag,∀br n,zdb (Es (qdb (mixH N))) (run E 1) n zot qnj 0 none (qfw ykn .str D p q zlz zyn zsu xs br zot) (qti zlz zyn zsu)=some (br,tag,ys):=by
 unfold mixH at h
 split at h
 ·rename_i hc
  obtain ⟨h1,h2,h3⟩:=hc
  simp only [Option.some.injEq] at h
  subst h
  have hG:∀D p q xs,p.length+q.length<N→D.length+p.length+q.length≤1000000→xs.length+(zfg D p q).length≤1000000→qdb (mixH N) zot zlz zyn (zhq D p q) zsu xs=some (xs++zfg D p q):=fun D p q xs a b c=>by
   rw [yko];unfold mixH;rw [if_pos ⟨a,b,c⟩]
  have hw:IntKind.wrap .i64 ((p.length:Int)+(q.length:Int))=(p.length:Int)+(q.length:Int):=znt (by omega) (by omega)
  have hp1:=qdf D p q
  cases p with
  |nil =>
   cases q with
   |nil =>
    refine ⟨1152,fun br n=>(qni _ D [] [] xs br n).trans ?_⟩
    have e0:((IntKind.wrap .i64 ((([]:List ByteArray).length:Int)+(([]:List ByteArray).length:Int)))==0)=true:=by rw [hw];rfl
    have e2:decide ((([]:List ByteArray).length:Int)>0)=false:=by simp
    rw [e0,e2]
    simp only [cond_false,cond_true,zax,zqa (n:=D.length) (b:=16) (by omega) (by omega),Option.bind_some,zqa (n:=xs.length+1) (b:=24) (by omega) (by omega),zfg]
   |cons y q =>
    refine ⟨192,fun br n=>(qni _ D [] (y::q) xs br n).trans ?_⟩
    simp only [List.length_cons,List.length_nil] at h1 h2 h3 hw hp1
    have e0:((IntKind.wrap .i64 ((([]:List ByteArray).length:Int)+((y::q).length:Int)))==0)=false:=by
     simp only [List.length_cons,List.length_nil]
     rw [hw]
     simp;omega
    have e1:decide (((y::q).length:Int)>0)=true:=by simp
    have e2:decide ((([]:List ByteArray).length:Int)>0)=false:=by simp
    rw [e0,e1,e2]
    simp only [cond_false,cond_true,qhy,qwh,yhf,qok (n:=(y::q).length) (by simp),zzs (n:=(y::q).length) (by simp),zqa (n:=D.length+1) (b:=16) (by omega) (by omega),decide_true,Bool.and_true,Bool.and_self]
    have em:zfg D [] (y::q)=zfg (D++[y]) [] q:=by rw [zfg]
    show ((qdb (mixH N) zot zlz zyn (zhq (D++[y]) [] q) zsu xs).bind fun r3=>some (br,192,r3))=_
    rw [hG (D++[y]) [] q xs (by simp only [List.length_nil];omega) (by simp only [List.length_append,List.length_cons,List.length_nil];omega) (by rw [←em];exact h3),em]
    rfl
  |cons x p =>
   simp only [List.length_cons] at h1 h2 h3 hw hp1
   have e0:∀q:List ByteArray,(IntKind.wrap .i64 (((p.length+1:Nat):Int)+(q.length:Int))=((p.length+1:Nat):Int)+(q.length:Int))→((IntKind.wrap .i64 (((x::p).length:Int)+(q.length:Int)))==0)=false:=fun q hw=>by
    simp only [List.length_cons]
    rw [hw]
    simp;omega
   have e1:decide (((x::p).length:Int)>0)=true:=by simp
   cases q with
   |nil =>
    refine ⟨192,fun br n=>(qni _ D (x::p) [] xs br n).trans ?_⟩
    have e2:decide ((([]:List ByteArray).length:Int)>0)=false:=by simp
    rw [e0 [] hw,e1,e2]
    simp only [cond_false,cond_true,qhy,qwh,yhf,qok (n:=(x::p).length) (by simp),zzs (n:=(x::p).length) (by simp),zqa (n:=D.length+1) (b:=16) (by omega) (by omega),decide_true,Bool.and_true,Bool.and_self]
    have em:zfg D (x::p) []=zfg (D++[x]) p []:=by rw [zfg]
    show ((qdb (mixH N) zot zlz zyn (zhq (D++[x]) p []) zsu xs).bind fun r3=>some (br,192,r3))=_
    rw [hG (D++[x]) p [] xs (by simp only [List.length_nil] at h1 ⊢;omega) (by simp only [List.length_append,List.length_cons,List.length_nil] at h2 ⊢;omega) (by rw [←em];exact h3),em]
    rfl
   |cons y q =>
    refine ⟨192,fun br n=>(qni _ D (x::p) (y::q) xs br n).trans ?_⟩
    have e2:decide (((y::q).length:Int)>0)=true:=by simp
    rw [e0 (y::q) hw,e1,e2]
    simp only [List.length_cons] at h1 h2
    simp only [cond_false,cond_true,qhy,qwh,yhf,qok (n:=(x::p).length) (by simp),zzs (n:=(x::p).length) (by simp),qok (n:=(y::q).length) (by simp),zzs (n:=(y::q).length) (by simp),zqa (n:=D.length+1) (b:=16) (by omega) (by omega),decide_true,Bool.and_true,Bool.and_self]
    have em:zfg D (x::p) (y::q)=zfg (D++[x]) p (y::q)++zfg (D++[y]) (x::p) q:=by rw [zfg]
    rw [em,List.length_append] at h3
    show ((qdb (mixH N) zot zlz zyn (zhq (D++[x]) p (y::q)) zsu xs).bind fun r2=>(qdb (mixH N) zot zlz zyn (zhq (D++[y]) (x::p) q) zsu r2).bind fun r3=>some (br,192,r3))=_
    rw [hG (D++[x]) p (y::q) xs (by simp only [List.length_cons];omega) (by simp only [List.length_append,List.length_cons,List.length_nil];omega) (by omega),Option.bind_some,
     hG (D++[y]) (x::p) q _ (by simp only [List.length_cons];omega) (by simp only [List.length_append,List.length_cons,List.length_nil];omega) (by rw [List.length_append];omega),em,List.append_assoc]
    rfl
 ·cases h
theorem ydn [Dfr] {N:Nat}:∀v t' e' args u' xs ys,(Es (qdb (mixH N))).pinF v t' e' args u' xs=some ys→v=zot∧t'=zlz∧e'=zyn∧∃h:u'=zsu,((zrf args).bind fun x=>mixH N x.1 x.2.1 x.2.2 (h▸xs:List zsu.den))=some (h▸ys:List zsu.den):=fun v t' e' args u' xs ys h=>by
 have h':qdb (mixH N) v t' e' args u' xs=some ys:=h
 unfold qdb at h'
 split at h'
 ·rename_i hq
  obtain ⟨rfl,rfl,rfl,rfl⟩:=hq
  refine ⟨rfl,rfl,rfl,rfl,?_⟩
  cases ha:zrf args with
  |none=>rw [ha] at h';cases h'
  |some x =>
   rw [ha] at h'
   simp only [Option.bind_some,Option.map_eq_some_iff] at h' ⊢
   obtain ⟨ys',h1,h2⟩:=h'
   have h3:ys'=ys:=h2
   rw [←h3];exact h1
 ·cases h'
theorem ydm [Dfr] [zcx]:∀N,yql Tryz.prog (Es (qdb (mixH N))) zot zlz zyn zsu (fun args xs=>(zrf args).bind fun x=>mixH N x.1 x.2.1 x.2.2 xs)
 |0=>⟨⟨Tryz.f226,Tryz.func226,by kernel_rfl,by kernel_rfl⟩,fun args xs ys h=>by
  simp only [Option.bind_eq_some_iff] at h
  obtain ⟨x,_,h⟩:=h
  simp [mixH] at h,fun args xs ys h=>by
  simp only [Option.bind_eq_some_iff] at h
  obtain ⟨x,_,h⟩:=h
  simp [mixH] at h⟩
 |N+1=>by
  have ih:=ydm N
  refine ⟨ih.call,fun args xs ys h=> ?_,fun args xs ys h w F bo br so vs own hF hbo hown hheap hrow hbr hcell hglob hvs=> ?_⟩
  ·simp only [Option.bind_eq_some_iff] at h
   obtain ⟨x,hx,_⟩:=h
   rw [zyo hx]
   intro s hs
   simp only [zhq,List.mem_cons,List.not_mem_nil,or_false] at hs
   rcases hs with rfl|rfl|rfl<;>exact ⟨_,_,_,rfl⟩
  ·simp only [Option.bind_eq_some_iff] at h
   obtain ⟨⟨D,p,q⟩,hx,h⟩:=h
   rw [zyo hx] at hvs
   obtain ⟨tag,hev⟩:=yvk h
   exact qzp (yrh (ysg ih ydn)) yri (f:=zot) (fn:=Tryz.f226) (body:=qnj) (k:=0) Tryz.func226 (by kernel_rfl) (by kernel_rfl) (by kernel_rfl) (fun br=>hev br 0) w F bo br so vs own hF hbo hown hheap hrow hbr hcell hglob hvs
end Go.Proofs.YtjolkdjkhekbnaaGreatDoor.Sv
