/- Traces: what the documents says of them, in plain Lean; no program in sight. -/
import Derived.Test.YtjolkdjkhekbnaaGreatDoorSvM
import Derived.Test.YtjolkdjkhekbnaaGreatDoorSvK
import Derived.Test.YtjolkdjkhekbnaaGreatDoorM2
set_option linter.unusedVariables false
set_option linter.unusedSimpArgs false
namespace Go.Rd
open Go Go.Sv
def zek (p q:Tc):Tc:=if p.2=1 then (p.1++q.1,q.2) else p
def zgn:List ByteArray→List ByteArray→List ByteArray→List (List ByteArray)
 |D,[],[]=>[D]
 |D,x::p,[]=>zgn (D++[x]) p []
 |D,[],y::q=>zgn (D++[y]) [] q
 |D,x::p,y::q=>zgn (D++[x]) p (y::q)++zgn (D++[y]) (x::p) q
termination_by _ p q=>p.length+q.length
inductive Mx {α:Type}:List α→List α→List α→Prop where
 |nil:Mx [] [] []
 |l {x:α} {p q r:List α}:Mx p q r→Mx (x::p) q (x::r)
 |r {y:α} {p q r:List α}:Mx p q r→Mx p (y::q) (y::r)
namespace Mx
variable {α:Type}
theorem right:∀(q:List α),Mx [] q q
 |[]=>.nil
 |y::q=>.r (right q)
theorem left:∀(p:List α),Mx p [] p
 |[]=>.nil
 |y::q=>.l (left q)
theorem qrh {q r:List α} (h:Mx [] q r):r=q:=by
 generalize hp:([]:List α)=p at h
 induction h with
 |nil=>rfl
 |l _ _=>cases hp
 |r _ ih=>rw [ih hp]
theorem yot {q r:List α} (h:Mx q [] r):r=q:=by
 generalize hp:([]:List α)=p at h
 induction h with
 |nil=>rfl
 |l _ ih=>rw [ih hp]
 |r _ _=>cases hp
theorem symm {p q r:List α} (h:Mx p q r):Mx q p r:=by
 induction h with
 |nil=>exact .nil
 |l _ ih=>exact .r ih
 |r _ ih=>exact .l ih
theorem len {p q r:List α} (h:Mx p q r):r.length=p.length+q.length:=by
 induction h with
 |nil=>rfl
 |l _ ih=>simp only [List.length_cons,ih];omega
 |r _ ih=>simp only [List.length_cons,ih];omega
theorem sub {p q r:List α} (h:Mx p q r):p.Sublist r:=by
 induction h with
 |nil=>exact .slnil
 |l _ ih=>exact ih.cons_cons _
 |r _ ih=>exact ih.cons _
end Mx
theorem zvu:∀{D p q x:List ByteArray},x∈zgn D p q↔∃r,x=D++r∧Mx p q r
 |D,[],[],x=>by rw [zgn,List.mem_singleton];exact ⟨fun h=>⟨[],by simp [h],.nil⟩,fun ⟨r,h,hr⟩=>by rw [hr.qrh] at h;simpa using h⟩
 |D,a::p,[],x=>by
  rw [zgn,zvu];constructor
  ·rintro ⟨r,rfl,hr⟩;exact ⟨a::r,by simp,.l hr⟩
  ·rintro ⟨r,rfl,hr⟩;rw [hr.yot];exact ⟨p,by simp,.left p⟩
 |D,[],b::q,x=>by
  rw [zgn,zvu];constructor
  ·rintro ⟨r,rfl,hr⟩;exact ⟨b::r,by simp,.r hr⟩
  ·rintro ⟨r,rfl,hr⟩;rw [hr.qrh];exact ⟨q,by simp,.right q⟩
 |D,a::p,b::q,x=>by
  rw [zgn,List.mem_append,zvu,zvu];constructor
  ·rintro (⟨r,rfl,hr⟩|⟨r,rfl,hr⟩)
   ·exact ⟨a::r,by simp,.l hr⟩
   ·exact ⟨b::r,by simp,.r hr⟩
  ·rintro ⟨r,rfl,hr⟩;cases hr with
   |l hr=>exact .inl ⟨_,by simp,hr⟩
   |r hr=>exact .inr ⟨_,by simp,hr⟩
termination_by _ p q=>p.length+q.length
def chN:Nat→Nat→Nat
 |0,_=>1
 |_+1,0=>1
 |m+1,n+1=>chN m (n+1)+chN (m+1) n
theorem zxy (m:Nat):chN m 0=1:=by cases m<;>rw [chN]
theorem ziz:∀(D p q:List ByteArray),(zgn D p q).length=chN p.length q.length
 |D,[],[]=>by rw [zgn];simp [chN]
 |D,x::p,[]=>by rw [zgn,ziz _ p []];simp [zxy]
 |D,[],y::q=>by rw [zgn,ziz _ [] q];simp [chN]
 |D,x::p,y::q=>by rw [zgn,List.length_append,ziz,ziz];simp [chN]
termination_by _ p q=>p.length+q.length
theorem qxb:∀(m n:Nat),chN m n≤2 ^ (m+n)
 |0,n=>by rw [chN];exact Nat.one_le_two_pow
 |m+1,0=>by rw [chN];exact Nat.one_le_two_pow
 |m+1,n+1=>by have h1:=qxb m (n+1);have h2:=qxb (m+1) n;rw [chN,show m+1+(n+1)=(m+n+1)+1 by omega,Nat.pow_succ];rw [show m+(n+1)=m+n+1 by omega] at h1;rw [show m+1+n=m+n+1 by omega] at h2;omega
theorem qrs {D p q:List ByteArray} {n:Nat} (h:p.length+q.length≤n):(zgn D p q).length≤2 ^ n:=by rw [ziz];exact Nat.le_trans (qxb _ _) (Nat.pow_le_pow_right (by omega) h)
def mixS (a b:List ByteArray):List (List ByteArray):=canon cmpA (zgn [] a b)
theorem ymf {a b x:List ByteArray}:x∈mixS a b↔Mx a b x:=by unfold mixS;rw [zaz ordA,zvu];exact ⟨fun ⟨r,h,hr⟩=>by rw [h];exact hr,fun h=>⟨x,rfl,h⟩⟩
theorem qva {a b:List ByteArray} {n:Nat} (h:a.length+b.length≤n):(mixS a b).length≤2 ^ n:=Nat.le_trans (zai _) (qrs h)
def parE (e:Int) (p q:List ByteArray):List Tc:=(mixS p q).map fun l=>(l,e)
theorem zxn {e:Int} {p q:List ByteArray} {x:Tc}:x∈parE e p q↔Mx p q x.1∧x.2=e:=by
 unfold parE;rw [List.mem_map];constructor
 ·rintro ⟨l,h,rfl⟩;exact ⟨ymf.1 h,rfl⟩
 ·rintro ⟨h,rfl⟩;exact ⟨x.1,ymf.2 h,rfl⟩
theorem yys (e:Int) (p q:List ByteArray):Srt cmpT (parE e p q):=by
 unfold parE Srt;rw [List.pairwise_map];refine List.Pairwise.imp (fun {a b} h=> ?_) (zfj ordA (zgn [] p q));show Ordering.then _ _=_
 rw [yhj];exact .inl h
def mixR:List ByteArray→List ByteArray→List (List ByteArray)
 |[],b=>[b]
 |x::a,[]=>[x::a]
 |x::a,y::b=>(mixR a (y::b)).map (x:: ·)++(mixR (x::a) b).map (y:: ·)
termination_by a b=>a.length+b.length
theorem zqd:∀{a b x:List ByteArray},x∈mixR a b↔Mx a b x
 |[],b,x=>by rw [mixR,List.mem_singleton];exact ⟨fun h=>by rw [h];exact .right b,fun h=>h.qrh⟩
 |y::a,[],x=>by rw [mixR,List.mem_singleton];exact ⟨fun h=>by rw [h];exact .left _,fun h=>h.yot⟩
 |u::a,v::b,x=>by
  rw [mixR,List.mem_append,List.mem_map,List.mem_map];constructor
  ·rintro (⟨r,h,rfl⟩|⟨r,h,rfl⟩)
   ·exact .l (zqd.1 h)
   ·exact .r (zqd.1 h)
  ·intro h;cases h with
   |l h=>exact .inl ⟨_,zqd.2 h,rfl⟩
   |r h=>exact .inr ⟨_,zqd.2 h,rfl⟩
termination_by a b=>a.length+b.length
theorem zrn:∀(a b:List ByteArray),(mixR a b).length=chN a.length b.length
 |[],b=>by rw [mixR];simp [chN]
 |x::a,[]=>by rw [mixR];simp [chN]
 |x::a,y::b=>by rw [mixR,List.length_append,List.length_map,List.length_map,zrn,zrn];simp [chN]
termination_by a b=>a.length+b.length
theorem ypq (e:Int) (a b:List ByteArray):canon cmpT ((mixR a b).map fun l=>(l,e))=parE e a b:=
 zyy ordT (zfj ordT _) (yys e a b) fun x=>by
  rw [zaz ordT,zxn,List.mem_map];constructor
  ·rintro ⟨l,h,rfl⟩;exact ⟨zqd.1 h,rfl⟩
  ·rintro ⟨h,rfl⟩;exact ⟨x.1,zqd.2 h,rfl⟩
def zhq {α:Type} (c:α→α→Ordering):List α→List α→List α
 |[],b=>b
 |x::a,[]=>x::a
 |x::a,y::b=>match c x y with
  | .lt=>x::zhq c a (y::b)
  | .eq=>x::zhq c a b
  | .gt=>y::zhq c (x::a) b
termination_by a b=>a.length+b.length
theorem znj {α:Type} {c:α→α→Ordering} (h:Ord3 c):∀{a b:List α} {z:α},z∈zhq c a b↔z∈a∨z∈b
 |[],b,z=>by rw [zhq];simp
 |x::a,[],z=>by rw [zhq];simp
 |x::a,y::b,z=>by
  rw [zhq];split
  ·rw [List.mem_cons,znj h,List.mem_cons (l:=a),or_assoc]
  ·rename_i he;rw [h.eq] at he;subst he;rw [List.mem_cons,znj h];simp only [List.mem_cons];constructor
   ·rintro (h|h|h)<;>simp [h]
   ·rintro ((h|h)|h|h)<;>simp [h]
  ·rw [List.mem_cons,znj h];simp only [List.mem_cons];constructor
   ·rintro (h|(h|h)|h)<;>simp [h]
   ·rintro ((h|h)|h|h)<;>simp [h]
termination_by a b=>a.length+b.length
theorem qbk {α:Type} {c:α→α→Ordering} (h:Ord3 c):∀{a b:List α},Srt c a→Srt c b→Srt c (zhq c a b)
 |[],b,_,hb=>by rw [zhq];exact hb
 |x::a,[],ha,_=>by rw [zhq];exact ha
 |x::a,y::b,ha,hb=>by
  obtain ⟨ha1,ha2⟩:=zjk.1 ha;obtain ⟨hb1,hb2⟩:=zjk.1 hb;rw [zhq];split
  ·rename_i he;refine zjk.2 ⟨fun z hz=> ?_,qbk h ha2 hb⟩;rcases (znj h).1 hz with hz|hz
   ·exact ha1 z hz
   ·rcases List.mem_cons.1 hz with rfl|hz
    ·exact he
    ·exact h.tr _ _ _ he (hb1 z hz)
  ·rename_i he;rw [h.eq] at he;subst he;refine zjk.2 ⟨fun z hz=> ?_,qbk h ha2 hb2⟩;rcases (znj h).1 hz with hz|hz
   ·exact ha1 z hz
   ·exact hb1 z hz
  ·rename_i he;rw [h.gt] at he;refine zjk.2 ⟨fun z hz=> ?_,qbk h ha hb2⟩;rcases (znj h).1 hz with hz|hz
   ·rcases List.mem_cons.1 hz with rfl|hz
    ·exact he
    ·exact h.tr _ _ _ he (ha1 z hz)
   ·exact hb1 z hz
termination_by a b=>a.length+b.length
theorem qmc {α:Type} {c:α→α→Ordering} (h:Ord3 c) (a b:List α):zhq c (canon c a) (canon c b)=canon c (a++b):=
 zyy h (qbk h (zfj h a) (zfj h b)) (zfj h _) fun x=>by rw [znj h,zaz h,zaz h,zaz h,List.mem_append]
end Go.Rd
namespace Go.Proofs.YtjolkdjkhekbnaaGreatDoor.Sv
open Go Go.Sv Go.Proofs Go.Rd
set_option maxRecDepth 100000
def mixH (N:Nat) (D p q:List ByteArray) (xs:List (List ByteArray)):Option (List (List ByteArray)):=
 if p.length+q.length<N∧D.length+p.length+q.length≤1000000∧xs.length+(zgn D p q).length≤1000000 then some (xs++zgn D p q) else none
theorem xfu [Dfr] {G:PinF} (hp:yha Tryz.prog (Es G)):qcp Tryz.prog (Es G):=
 ⟨tab.mixed,⟨fun t i h=>tab.types.ti t i h⟩,⟨tab.elems.row,tab.elems.el,tab.elems.arr⟩,fun f b e u h=>have r:=tab.rows f b e u h;⟨r.call,r.none,r.sort,r.compact⟩,hp,fun f e u h=>tab.revs f e u h⟩
theorem xfv [Dfr] [zdv] {G:PinF}:zyr Tryz.prog (Es G) (run E 1):=fun f x r h=>by obtain ⟨h1,h2⟩:=zog yge 1 f x r h;exact ⟨h1,fun w F0 G A vs hA=>h2 w F0 G A vs ⟨hA.rel,hA.bx,hA.tgm,hA.tgi,hA.f0,hA.glob⟩⟩
theorem zvd [Dfr] {n b:Nat} (h:n≤1000001) (hb:b≤24):zae n b=true:=by unfold zae;refine decide_eq_true ?_;have:n*b≤1000001*24:=Nat.mul_le_mul h hb;omega
theorem ykg [Dfr] {α:Type} (D:List α):cut D 0 (D.length:Int)=D:=by simp [cut]
theorem yvy [Dfr] {α:Type} (x:α) (p:List α):cut (x::p) 1 ((x::p).length:Int)=p:=by simp [cut]
theorem qsp [Dfr] {n:Nat}:zaw 0 (n:Int) n=true:=by simp [zaw]
theorem qis [Dfr] {n:Nat} (h:1≤n):zaw 1 (n:Int) n=true:=by simp [zaw];omega
theorem ybg [Dfr] {n:Nat} (h:1≤n):zaa 0 n=true:=by simp [zaa];omega
theorem qna [Dfr] (D p q:List ByteArray):1≤(zgn D p q).length:=by
 rw [ziz];have:∀m n,1≤chN m n:=fun m=>by
  induction m with
  |zero=>intro n;rw [chN];omega
  |succ m ih=>intro n;cases n with
   |zero=>rw [chN];omega
   |succ n=>rw [chN];have:=ih (n+1);omega
 exact this _ _
theorem xjv [Dfr] {N:Nat} {D p q:List ByteArray} {xs ys:List (List ByteArray)} (h:mixH (N+1) D p q xs=some ys):∃tag,∀br n,zeb (Es (qms (mixH N))) (run E 1) n ztq qyy 0 none (qpu yzc .str D p q zpu qgu zze xs br ztq) (ygt zpu qgu zze)=some (br,tag,ys):=by
 unfold mixH at h;split at h
 ·rename_i hc;obtain ⟨h1,h2,h3⟩:=hc;simp only [Option.some.injEq] at h;subst h;have hG:∀D p q xs,p.length+q.length<N→D.length+p.length+q.length≤1000000→xs.length+(zgn D p q).length≤1000000→qms (mixH N) ztq zpu qgu (zkg D p q) zze xs=some (xs++zgn D p q):=fun D p q xs a b c=>by rw [yzd];unfold mixH;rw [if_pos ⟨a,b,c⟩]
  have hw:IntKind.wrap .i64 ((p.length:Int)+(q.length:Int))=(p.length:Int)+(q.length:Int):=zfi (by omega) (by omega);have hp1:=qna D p q;cases p with
  |nil=>
   cases q with
   |nil=>
    refine ⟨1152,fun br n=>(qyx _ D [] [] xs br n).trans ?_⟩;have e0:((IntKind.wrap .i64 ((([]:List ByteArray).length:Int)+(([]:List ByteArray).length:Int)))==0)=true:=by rw [hw];rfl
    have e2:decide ((([]:List ByteArray).length:Int)>0)=false:=by simp
    rw [e0,e2];simp only [cond_false,cond_true,zbn,zvd (n:=D.length) (b:=16) (by omega) (by omega),Option.bind_some,zvd (n:=xs.length+1) (b:=24) (by omega) (by omega),zgn]
   |cons y q=>
    refine ⟨192,fun br n=>(qyx _ D [] (y::q) xs br n).trans ?_⟩;simp only [List.length_cons,List.length_nil] at h1 h2 h3 hw hp1;have e0:((IntKind.wrap .i64 ((([]:List ByteArray).length:Int)+((y::q).length:Int)))==0)=false:=by simp only [List.length_cons,List.length_nil];rw [hw];simp;omega
    have e1:decide (((y::q).length:Int)>0)=true:=by simp
    have e2:decide ((([]:List ByteArray).length:Int)>0)=false:=by simp
    rw [e0,e1,e2];simp only [cond_false,cond_true,qsp,ykg,yvy,ybg (n:=(y::q).length) (by simp),qis (n:=(y::q).length) (by simp),zvd (n:=D.length+1) (b:=16) (by omega) (by omega),decide_true,Bool.and_true,Bool.and_self];have em:zgn D [] (y::q)=zgn (D++[y]) [] q:=by rw [zgn]
    show ((qms (mixH N) ztq zpu qgu (zkg (D++[y]) [] q) zze xs).bind fun r3=>some (br,192,r3))=_;rw [hG (D++[y]) [] q xs (by simp only [List.length_nil];omega) (by simp only [List.length_append,List.length_cons,List.length_nil];omega) (by rw [←em];exact h3),em];rfl
  |cons x p=>
   simp only [List.length_cons] at h1 h2 h3 hw hp1;have e0:∀q:List ByteArray,(IntKind.wrap .i64 (((p.length+1:Nat):Int)+(q.length:Int))=((p.length+1:Nat):Int)+(q.length:Int))→((IntKind.wrap .i64 (((x::p).length:Int)+(q.length:Int)))==0)=false:=fun q hw=>by simp only [List.length_cons];rw [hw];simp;omega
   have e1:decide (((x::p).length:Int)>0)=true:=by simp
   cases q with
   |nil=>
    refine ⟨192,fun br n=>(qyx _ D (x::p) [] xs br n).trans ?_⟩;have e2:decide ((([]:List ByteArray).length:Int)>0)=false:=by simp
    rw [e0 [] hw,e1,e2];simp only [cond_false,cond_true,qsp,ykg,yvy,ybg (n:=(x::p).length) (by simp),qis (n:=(x::p).length) (by simp),zvd (n:=D.length+1) (b:=16) (by omega) (by omega),decide_true,Bool.and_true,Bool.and_self];have em:zgn D (x::p) []=zgn (D++[x]) p []:=by rw [zgn]
    show ((qms (mixH N) ztq zpu qgu (zkg (D++[x]) p []) zze xs).bind fun r3=>some (br,192,r3))=_;rw [hG (D++[x]) p [] xs (by simp only [List.length_nil] at h1 ⊢;omega) (by simp only [List.length_append,List.length_cons,List.length_nil] at h2 ⊢;omega) (by rw [←em];exact h3),em];rfl
   |cons y q=>
    refine ⟨192,fun br n=>(qyx _ D (x::p) (y::q) xs br n).trans ?_⟩;have e2:decide (((y::q).length:Int)>0)=true:=by simp
    rw [e0 (y::q) hw,e1,e2];simp only [List.length_cons] at h1 h2;simp only [cond_false,cond_true,qsp,ykg,yvy,ybg (n:=(x::p).length) (by simp),qis (n:=(x::p).length) (by simp),ybg (n:=(y::q).length) (by simp),qis (n:=(y::q).length) (by simp),zvd (n:=D.length+1) (b:=16) (by omega) (by omega),decide_true,Bool.and_true,Bool.and_self];have em:zgn D (x::p) (y::q)=zgn (D++[x]) p (y::q)++zgn (D++[y]) (x::p) q:=by rw [zgn]
    rw [em,List.length_append] at h3;show ((qms (mixH N) ztq zpu qgu (zkg (D++[x]) p (y::q)) zze xs).bind fun r2=>(qms (mixH N) ztq zpu qgu (zkg (D++[y]) (x::p) q) zze r2).bind fun r3=>some (br,192,r3))=_;rw [hG (D++[x]) p (y::q) xs (by simp only [List.length_cons];omega) (by simp only [List.length_append,List.length_cons,List.length_nil];omega) (by omega),Option.bind_some,
     hG (D++[y]) (x::p) q _ (by simp only [List.length_cons];omega) (by simp only [List.length_append,List.length_cons,List.length_nil];omega) (by rw [List.length_append];omega),em,List.append_assoc]
    rfl
 ·cases h
theorem ysd [Dfr] {N:Nat}:∀v t' e' args u' xs ys,(Es (qms (mixH N))).pinF v t' e' args u' xs=some ys→v=ztq∧t'=zpu∧e'=qgu∧∃h:u'=zze,((zwt args).bind fun x=>mixH N x.1 x.2.1 x.2.2 (h▸xs:List zze.den))=some (h▸ys:List zze.den):=fun v t' e' args u' xs ys h=>by
 have h':qms (mixH N) v t' e' args u' xs=some ys:=h;unfold qms at h';split at h'
 ·rename_i hq;obtain ⟨rfl,rfl,rfl,rfl⟩:=hq;refine ⟨rfl,rfl,rfl,rfl,?_⟩;cases ha:zwt args with
  |none=>rw [ha] at h';cases h'
  |some x=>rw [ha] at h';simp only [Option.bind_some,Option.map_eq_some_iff] at h' ⊢;obtain ⟨ys',h1,h2⟩:=h';have h3:ys'=ys:=h2;rw [←h3];exact h1
 ·cases h'
theorem ysc [Dfr] [zdv]:∀N,xez Tryz.prog (Es (qms (mixH N))) ztq zpu qgu zze (fun args xs=>(zwt args).bind fun x=>mixH N x.1 x.2.1 x.2.2 xs)
 |0=>⟨⟨Tryz.f226,Tryz.func226,by kernel_rfl,by kernel_rfl⟩,fun args xs ys h=>by
  simp only [Option.bind_eq_some_iff] at h;obtain ⟨x,_,h⟩:=h;simp [mixH] at h,fun args xs ys h=>by
  simp only [Option.bind_eq_some_iff] at h;obtain ⟨x,_,h⟩:=h;simp [mixH] at h⟩
 |N+1=>by
  have ih:=ysc N;refine ⟨ih.call,fun args xs ys h=> ?_,fun args xs ys h w F bo br so vs own hF hbo hown hheap hrow hbr hcell hglob hvs=> ?_⟩
  ·simp only [Option.bind_eq_some_iff] at h;obtain ⟨x,hx,_⟩:=h;rw [qgv hx];intro s hs;simp only [zkg,List.mem_cons,List.not_mem_nil,or_false] at hs;rcases hs with rfl|rfl|rfl<;>exact ⟨_,_,_,rfl⟩
  ·simp only [Option.bind_eq_some_iff] at h;obtain ⟨⟨D,p,q⟩,hx,h⟩:=h;rw [qgv hx] at hvs;obtain ⟨tag,hev⟩:=xjv h;exact ynw (xfu (xgs ih ysd)) xfv (f:=ztq) (fn:=Tryz.f226) (body:=qyy) (k:=0) Tryz.func226 (by kernel_rfl) (by kernel_rfl) (by kernel_rfl) (fun br=>hev br 0) w F bo br so vs own hF hbo hown hheap hrow hbr hcell hglob hvs
open Go Go.Sv Go.Rd
theorem qiv [Dfr] (x y:Int):zpi x y=some (ordN (cmpI x y)):=by
 rw [qfo,zwd,zwd];unfold cmpI;by_cases h:x<y
 ·simp [h,ordN]
 ·by_cases h':x=y
  ·simp [h',ordN]
  ·have h2:y<x:=by omega
   simp [h,h',h2,ordN]
theorem zov [Dfr] (x y:ByteArray):zlc x y=some (ordN (cmpB x y)):=by
 rw [zyq,zpl,zpl];simp only [Option.bind_some,beq_self_eq_true,Bool.not_true,cond_false,qyg,str_eq];cases h:cmpB x y with
 |lt=>simp [ordN]
 |eq=>have e:=(ordB.eq x y).1 h;simp [e,ordN]
 |gt=>
  have e:x≠y:=fun e=>by rw [e,ordB.rfl'] at h;cases h
  simp [e,ordN]
theorem qvk [Dfr] (a b:Int):qfn [a,b]=some (if a=0 then b else a):=by
 rw [qvj,znn,znn,znn];by_cases h:a=0
 ·by_cases h':b=0
  ·subst h;subst h';rfl
  ·subst h;have e1:(ix [0,b] 0 != 0)=false:=rfl;have e2:(ix [0,b] (w64 (0+1)) != 0)=true:=by show (b != 0)=true;simpa using h'
   simp only [e1,e2,cond_false,cond_true];rfl
 ·have e1:(ix [a,b] 0 != 0)=true:=by show (a != 0)=true;simpa using h
  simp only [e1,cond_true,if_neg h];rfl
theorem qrd [Dfr] (a b:Ordering):ordN (a.then b)=if ordN a=0 then ordN b else ordN a:=by cases a<;>rfl
theorem zjy [Dfr] (xs ys:List ByteArray) (hx:xs.length≤4611686018427387904):∀(r s:List ByteArray) (i:Nat),xs.drop i=r→ys.drop i=s→i≤xs.length→i≤ys.length→
 ∃e,zds xs ys 0 xs (xs.length:Int) (i:Int)=some e∧(bif Nat.beq e.1 0 then (bif (decide ((e.2.1.length:Int)<(e.2.2.1.length:Int))) then (some (-1)) else (some 0)) else (some e.2.2.2))=some (ordN (cmpL cmpB r s))
 |[],s,i,h,k,hi,hj=>by
  obtain ⟨h1,h2⟩:=drop_nil h;refine ⟨(0,(xs,ys,0)),?_,?_⟩
  ·rw [zcu];simp only [h2,cond_false]
  ·have hk:=congrArg List.length k;rw [List.length_drop] at hk;cases s with
   |nil=>rw [List.length_nil] at hk;have e:decide ((xs.length:Int)<(ys.length:Int))=false:=decide_eq_false (by omega);simp only [e];rfl
   |cons y s=>rw [List.length_cons] at hk;have e:decide ((xs.length:Int)<(ys.length:Int))=true:=decide_eq_true (by omega);simp only [e];rfl
 |x::r,[],i,h,k,hi,hj=>by obtain ⟨h1,h2,h3,h4,h5,h6⟩:=zab h;obtain ⟨k1,k2⟩:=drop_nil k;refine ⟨(1,(xs,ys,1)),?_,rfl⟩;rw [zcu];simp only [h2,h3,cond_true,decide_eq_true (show (i:Int)≥(ys.length:Int) by omega)]
 |x::r,y::s,i,h,k,hi,hj=>by
  obtain ⟨h1,h2,h3,h4,h5,h6⟩:=zab h;obtain ⟨k1,k2,k3,k4,k5,k6⟩:=zab k;obtain ⟨e,he,hr⟩:=zjy xs ys hx r s (i+1) h5 k5 (by omega) (by omega);rw [cmpL,qrd];by_cases hc:ordN (cmpB x y)=0
  ·refine ⟨e,?_,by rw [if_pos hc];exact hr⟩;rw [zcu];have e1:(ordN (cmpB x y) != 0)=false:=by simp [hc]
   simp only [h2,h3,h4,k3,k4,cond_true,decide_eq_false (show ¬(i:Int)≥(ys.length:Int) by omega),cond_false,zov,Option.bind_some,e1,zar (show i<9223372036854775807 by omega),he]
  ·refine ⟨(1,(xs,ys,ordN (cmpB x y))),?_,by rw [if_neg hc];rfl⟩;rw [zcu];have e1:(ordN (cmpB x y) != 0)=true:=by simpa using hc
   simp only [h2,h3,h4,k3,k4,cond_true,decide_eq_false (show ¬(i:Int)≥(ys.length:Int) by omega),cond_false,zov,Option.bind_some,e1]
theorem zlj [Dfr] (xs ys:List ByteArray) (hx:xs.length≤4611686018427387904):zfd xs ys=some (ordN (cmpA xs ys)):=by obtain ⟨e,he,hr⟩:=zjy xs ys hx xs ys 0 rfl rfl (by omega) (by omega);rw [Int.natCast_zero] at he;rw [zto,he,Option.bind_some];exact hr
theorem zif [Dfr] (x y:Tc) (hx:x.1.length≤4611686018427387904):zey x y=some (ordN (cmpT x y)):=by rw [zym,zlj _ _ hx,Option.bind_some,qiv,Option.bind_some,qvk,Option.bind_some];show _=some (ordN (Ordering.then _ _));rw [qrd]
theorem qnq [Dfr] (o:Ordering):(ordN o==0)=decide (o= .eq):=by cases o<;>rfl
theorem qxv [Dfr] (x y:Tc) (hx:x.1.length≤4611686018427387904):qdv x y=some (decide (cmpT x y= .eq)):=by rw [qtp,zif x y hx,Option.bind_some,qnq]
def zgq (l:List Tc):Prop:=∀x∈l,x.1.length≤4611686018427387904
theorem qoi [Dfr] (l:List Tc) (hl:l.length≤1000000000) (hs:zgq l):zum l=some (canon cmpT l):=by
 rw [yck,zqx l hl,Option.bind_some];simp only [Option.bind_fun_some];exact qkw (u:=.pair (.slice 9 .str) (.int .i64)) ordT (by omega) (fun x hx y hy=>(zwh x.1 x.2 y.1 y.2).trans (zif x y (hs x hx)))
  (fun x hx y hy=>(qoj x.1 x.2 y.1 y.2).trans (qxv x y (hs x hx)))
theorem qxx [Dfr] (x y:Tc) (hx:x.1.length≤4611686018427387904):qdw x y=some (decide (cmpT x y= .eq)):=by rw [qtr,zif x y hx,Option.bind_some,qnq]
theorem xht [Dfr] (l:List Tc) (t:Tc):(l.any fun x=>decide (cmpT x t= .eq))=decide (t∈l):=by
 rw [Bool.eq_iff_iff,List.any_eq_true,decide_eq_true_iff];constructor
 ·rintro ⟨x,hx,h⟩;rw [decide_eq_true_iff,ordT.eq] at h;rw [←h];exact hx
 ·exact fun h=>⟨t,h,by rw [decide_eq_true_iff,ordT.eq]⟩
theorem qok [Dfr] (l:List Tc) (t:Tc) (hl:l.length≤1000000000) (hs:zgq l):zun l t=some (decide (t∈l)):=by rw [ycl,zlq l _ (fun x=>decide (cmpT x t= .eq)) (by omega) (fun x hx=>(qol x.1 x.2 t).trans (qxx x t (hs x hx))),Option.bind_some,xht]
theorem ycj [Dfr] (p q:Tc) (hl:p.1.length+q.1.length≤1000000000):zul p q=some (zek p q):=by
 rw [qxt];unfold zek;by_cases h:p.2=1
 ·have e:(p.2 != 1)=false:=by simp [h]
  rw [e,cond_false,zwp [p.1,q.1] (by simp only [zhk];omega) (by simp),if_pos h];simp
 ·have e:(p.2 != 1)=true:=by simpa using h
  rw [e,cond_true,zmv p.1 (by omega),if_neg h];rfl
def qhx (a b:List ByteArray):Option (List (List ByteArray)):=if a.length+b.length≤1000000∧(zgn [] a b).length≤1000000 then some (mixS a b) else none
class xki [Dfr]:Prop where
 eq:∀a b,Dfr.d_trace_Mix a b=qhx a b
theorem qhn [Dfr] (xs ys:List ByteArray) (hx:xs.length≤4611686018427387904) (hy:ys.length≤4611686018427387904):∀(r s:List ByteArray) (i:Nat),xs.drop i=r→ys.drop i=s→i≤xs.length→i≤ys.length→
 ∃e n,zst xs ys 0 (i:Int)=some e∧(bif Nat.beq e.1 0 then (some (w64 ((e.2.1.length:Int)-(e.2.2.1.length:Int)))) else (some e.2.2.2))=some n∧(n<0↔cmpL cmpB r s= .lt)∧(0<n↔cmpL cmpB r s= .gt)
 |[],s,i,h,k,hi,hj=>by
  obtain ⟨h1,h2⟩:=drop_nil h;have hk:=congrArg List.length k;rw [List.length_drop] at hk;refine ⟨(0,(xs,ys,0)),(xs.length:Int)-(ys.length:Int),?_,?_,?_⟩
  ·rw [ziv];simp only [h2,cond_false]
  ·show some (w64 ((xs.length:Int)-(ys.length:Int)))=_;rw [zfi (by omega) (by omega)]
  ·cases s with
   |nil=>rw [List.length_nil] at hk;exact ⟨by simp [cmpL];omega,by simp [cmpL];omega⟩
   |cons y s=>rw [List.length_cons] at hk;exact ⟨by simp [cmpL];omega,by simp [cmpL];omega⟩
 |x::r,[],i,h,k,hi,hj=>by
  obtain ⟨h1,h2,h3,h4,h5,h6⟩:=zab h;obtain ⟨k1,k2⟩:=drop_nil k;refine ⟨(0,(xs,ys,0)),(xs.length:Int)-(ys.length:Int),?_,?_,?_⟩
  ·rw [ziv];simp only [h2,k2,cond_false,cond_true]
  ·show some (w64 ((xs.length:Int)-(ys.length:Int)))=_;rw [zfi (by omega) (by omega)]
  ·exact ⟨by simp [cmpL];omega,by simp [cmpL];omega⟩
 |x::r,y::s,i,h,k,hi,hj=>by
  obtain ⟨h1,h2,h3,h4,h5,h6⟩:=zab h;obtain ⟨k1,k2,k3,k4,k5,k6⟩:=zab k;obtain ⟨e,n,he,hn,hr⟩:=qhn xs ys hx hy r s (i+1) h5 k5 (by omega) (by omega);rw [cmpL];cases hc:cmpB x y with
  |lt=>refine ⟨(1,(xs,ys,-1)),-1,?_,rfl,by simp [Ordering.then],by simp [Ordering.then]⟩;rw [ziv];simp only [h2,h3,h4,k2,k3,k4,cond_true,qyg,hc,decide_true]
  |eq=>have exy:=(ordB.eq x y).1 hc;refine ⟨e,n,?_,hn,by simpa [Ordering.then] using hr⟩;rw [ziv];simp only [h2,h3,h4,k2,k3,k4,cond_true,qyg,hc,str_eq,exy,decide_true,Bool.or_true,Bool.not_true,cond_false,zar (show i<9223372036854775807 by omega),he];simp [ordB.rfl']
  |gt=>
   have exy:x≠y:=fun e=>by rw [e,ordB.rfl'] at hc;cases hc
   refine ⟨(1,(xs,ys,1)),1,?_,rfl,by simp [Ordering.then],by simp [Ordering.then]⟩;rw [ziv];simp only [h2,h3,h4,k2,k3,k4,cond_true,qyg,hc,str_eq,exy,decide_false];rfl
theorem yir [Dfr] (xs ys:List ByteArray) (hx:xs.length≤4611686018427387904) (hy:ys.length≤4611686018427387904):∃n,qqw xs ys=some n∧(n<0↔cmpA xs ys= .lt)∧(0<n↔cmpA xs ys= .gt):=by obtain ⟨e,n,he,hn,hr⟩:=qhn xs ys hx hy xs ys 0 rfl rfl (by omega) (by omega);rw [Int.natCast_zero] at he;refine ⟨n,?_,hr⟩;rw [yem,he,Option.bind_some];exact hn
theorem zgl [Dfr] (x y:Tc) (hx:x.1.length≤4611686018427387904) (hy:y.1.length≤4611686018427387904):zeu x y=some (ordN (cmpT x y)):=by
 obtain ⟨n,hn,h1,h2⟩:=yir x.1 y.1 hx hy;rw [qmv,hn,Option.bind_some];show _=some (ordN (Ordering.then _ _));cases hc:cmpA x.1 y.1 with
 |lt=>
  have a:=h1.2 hc;have e:(n==0)=false:=by simp;omega
  simp only [e,cond_false,decide_eq_true a,cond_true];rfl
 |gt=>
  have a:=h2.2 hc;have e:(n==0)=false:=by simp;omega
  simp only [e,cond_false,decide_eq_false (show ¬n<0 by omega),decide_eq_true (show n>0 from a),cond_true];rfl
 |eq=>
  have a:n=0:=by
   have b1:¬n<0:=fun h=>by rw [h1,hc] at h;cases h
   have b2:¬0<n:=fun h=>by rw [h2,hc] at h;cases h
   omega
  subst a;show _=some (ordN (cmpI x.2 y.2));unfold cmpI;by_cases c1:x.2<y.2
  ·simp [c1,ordN]
  ·by_cases c2:x.2=y.2
   ·simp [c2,ordN]
   ·have c3:y.2<x.2:=by omega
    simp [c1,c2,c3,ordN]
theorem qdf [Dfr] (xs ys:List Tc) (b:Bool) (hx:xs.length≤4611686018427387904) (hl:xs.length=ys.length) (sx:zgq xs) (sy:zgq ys):∀(r:List Tc) (i:Nat),xs.drop i=r→zqa xs ys b (i:Int)=some (if r=ys.drop i then (0,b) else (1,false))
 |[],i,h=>by rw [zyh];obtain ⟨h1,h2⟩:=drop_nil h;simp only [h2,cond_false,List.drop_eq_nil_of_le (show ys.length≤i by omega),if_true]
 |x::r,i,h=>by
  rw [zyh];obtain ⟨h1,h2,h3,h4,h5,h6⟩:=zab h;cases hy:ys.drop i with
  |nil=>have:=List.drop_eq_nil_iff.1 hy;omega
  |cons y s=>
   obtain ⟨k1,k2,k3,k4,k5,k6⟩:=zab hy;have mx:x∈xs:=List.mem_of_mem_drop (by rw [h];exact List.mem_cons_self ..);have my:y∈ys:=List.mem_of_mem_drop (by rw [hy];exact List.mem_cons_self ..);have e0:(ordN (cmpT x y) != 0)= !decide (x=y):=by rw [←decide_eq_decide.2 (ordT.eq x y),←qnq];rfl
   simp only [h2,h3,h4,k3,k4,cond_true,zgl x y (sx x mx) (sy y my),Option.bind_some,e0,zar (show i<9223372036854775807 by omega),qdf xs ys b hx hl sx sy r (i+1) h5,k5];by_cases e:x=y
   ·simp [e]
   ·simp [e]
theorem yel [Dfr] (xs ys:List Tc) (hx:xs.length≤4611686018427387904) (sx:zgq xs) (sy:zgq ys):qjr xs ys=some (decide (xs=ys)):=by
 rw [yap];by_cases hl:xs.length=ys.length
 ·have h1:((xs.length:Int) != (ys.length:Int))=false:=by simp [hl]
  have:=qdf xs ys false hx hl sx sy xs 0 rfl;simp only [Int.natCast_zero,List.drop_zero] at this;simp only [h1,cond_false,this,Option.bind_some];by_cases e:xs=ys<;>simp [e,Nat.beq]
 ·have h1:((xs.length:Int) != (ys.length:Int))=true:=by simp;omega
  have h2:xs≠ys:=fun e=>hl (by rw [e])
  simp [h1,h2]
theorem zgk [Dfr] (a b:List Tc) (ha:a.length≤1000000000) (hb:b.length≤1000000000) (sa:zgq a) (sb:zgq b):∀(n:Nat) (r s:List Tc) (i j:Nat) (acc:List Tc),r.length+s.length≤n→a.drop i=r→b.drop j=s→i≤a.length→j≤b.length→acc.length≤i+j→
 zba a b acc (i:Int) (j:Int)=some (0,acc++zhq cmpT r s)
 |n,[],[],i,j,acc,hn,h,k,hi,hj,hc=>by obtain ⟨h1,h2⟩:=drop_nil h;obtain ⟨k1,k2⟩:=drop_nil k;rw [zjq,zhq];simp only [h2,k2,cond_false,List.append_nil]
 |0,[],y::s,i,j,acc,hn,h,k,hi,hj,hc=>by simp at hn
 |0,x::r,s,i,j,acc,hn,h,k,hi,hj,hc=>by simp at hn
 |n+1,[],y::s,i,j,acc,hn,h,k,hi,hj,hc=>by
  obtain ⟨h1,h2⟩:=drop_nil h;obtain ⟨k1,k2,k3,k4,k5,k6⟩:=zab k;have e:((i:Int)==(a.length:Int))=true:=by simp;omega
  have ih:=zgk a b ha hb sa sb n [] s i (j+1) (acc++[y]) (by simp at hn ⊢;omega) h k5 hi (by omega) (by simp;omega);rw [zjq,zhq];simp only [h2,k2,k3,k4,cond_true,cond_false,e,room (show (acc.length+1)*32≤140737488355328 by omega),zar (show j<9223372036854775807 by omega),ih];cases s<;>simp [zhq]
 |n+1,x::r,[],i,j,acc,hn,h,k,hi,hj,hc=>by
  obtain ⟨h1,h2,h3,h4,h5,h6⟩:=zab h;obtain ⟨k1,k2⟩:=drop_nil k;have e:((i:Int)==(a.length:Int))=false:=by simp;omega
  have ih:=zgk a b ha hb sa sb n r [] (i+1) j (acc++[x]) (by simp at hn ⊢;omega) h5 k (by omega) hj (by simp;omega);rw [zjq,zhq];simp only [h2,h3,h4,k2,cond_true,cond_false,e,room (show (acc.length+1)*32≤140737488355328 by omega),zar (show i<9223372036854775807 by omega),ih];cases r<;>simp [zhq]
 |n+1,x::r,y::s,i,j,acc,hn,h,k,hi,hj,hc=>by
  obtain ⟨h1,h2,h3,h4,h5,h6⟩:=zab h;obtain ⟨k1,k2,k3,k4,k5,k6⟩:=zab k;have e:((i:Int)==(a.length:Int))=false:=by simp;omega
  have mx:x∈a:=List.mem_of_mem_drop (by rw [h];exact List.mem_cons_self ..);have my:y∈b:=List.mem_of_mem_drop (by rw [k];exact List.mem_cons_self ..);have wi:=zar (show i<9223372036854775807 by omega);have wj:=zar (show j<9223372036854775807 by omega);have rm:=room (show (acc.length+1)*32≤140737488355328 by omega);rw [zjq,zhq];simp only [h2,h3,h4,k2,k3,k4,cond_true,cond_false,e,zgl x y (sa x mx) (sb y my),Option.bind_some,rm,wi,wj];simp only [List.length_cons] at hn;cases hcm:cmpT x y with
  |lt=>have ih:=zgk a b ha hb sa sb n r (y::s) (i+1) j (acc++[x]) (by simp only [List.length_cons];omega) h5 k (by omega) hj (by simp;omega);rw [List.append_assoc,List.singleton_append] at ih;exact ih
  |eq=>have ih:=zgk a b ha hb sa sb n r s (i+1) (j+1) (acc++[x]) (by omega) h5 k5 (by omega) (by omega) (by simp;omega);rw [List.append_assoc,List.singleton_append] at ih;exact ih
  |gt=>have ih:=zgk a b ha hb sa sb n (x::r) s i (j+1) (acc++[y]) (by simp only [List.length_cons];omega) h k5 hi (by omega) (by simp;omega);rw [List.append_assoc,List.singleton_append] at ih;exact ih
theorem yan [Dfr] (a b:List Tc) (ha:a.length≤1000000000) (hb:b.length≤1000000000) (sa:zgq a) (sb:zgq b):qew a b=some (zhq cmpT a b):=by have e:=zgk a b ha hb sa sb (a.length+b.length) a b 0 0 [] (Nat.le_refl _) rfl rfl (by omega) (by omega) (by simp);rw [Int.natCast_zero] at e;rw [quq,e];rfl
theorem qpp [Dfr] {l:List Tc} (h:zgq l):zgq (canon cmpT l):=fun x hx=>h x ((zaz ordT).1 hx)
theorem ziu [Dfr]:∀(n:Nat) (l:List Tc),l.length≤n→l.length≤1000000000→zgq l→zri l=some (canon cmpT l)
 |0,l,hn,hl,hs=>by have:l=[]:=List.length_eq_zero_iff.1 (by omega);subst this;rw [qlt];rfl
 |n+1,l,hn,hl,hs=>by
  rw [qlt];by_cases h2:l.length<2
  ·rw [decide_eq_true (show (l.length:Int)<2 by omega),cond_true]
   match l,h2 with
   |[],_=>rfl
   |[x],_=>rfl
  ·rw [decide_eq_false (show ¬(l.length:Int)<2 by omega),cond_false];have hd:w64 ((l.length:Int).tdiv 2)=((l.length/2:Nat):Int):=by rw [Int.tdiv_eq_ediv_of_nonneg (by omega)];exact zfi (by omega) (by omega)
   rw [hd,qwz (show l.length/2≤l.length by omega),cond_true,ymy,qbd,zep (show l.length/2≤l.length by omega) (Nat.le_refl _)];simp only [cond_true];have h3:(l.take (l.length/2)).length≤n:=by rw [List.length_take];omega
   have h4:(l.drop (l.length/2)).length≤n:=by rw [List.length_drop];omega
   have s3:zgq (l.take (l.length/2)):=fun x hx=>hs x (List.mem_of_mem_take hx)
   have s4:zgq (l.drop (l.length/2)):=fun x hx=>hs x (List.mem_of_mem_drop hx)
   have l3:=zai (c:=cmpT) (l.take (l.length/2));have l4:=zai (c:=cmpT) (l.drop (l.length/2));rw [List.length_take] at l3;rw [List.length_drop] at l4;rw [ziu n _ h3 (by rw [List.length_take];omega) s3,Option.bind_some,ziu n _ h4 (by rw [List.length_drop];omega) s4,Option.bind_some,
    yan _ _ (by omega) (by omega) (qpp s3) (qpp s4),Option.bind_some,qmc ordT,List.take_append_drop]
theorem qhp [Dfr] (xs:List Tc) (t:Tc) (b:Bool) (hx:xs.length≤4611686018427387904) (sx:zgq xs) (st:t.1.length≤4611686018427387904):∀(r:List Tc) (i:Nat),xs.drop i=r→zsv xs t b (i:Int)=some (if t∈r then (1,true) else (0,b))
 |[],i,h=>by obtain ⟨h1,h2⟩:=drop_nil h;rw [qaj];simp only [h2,cond_false];simp
 |x::r,i,h=>by
  obtain ⟨h1,h2,h3,h4,h5,h6⟩:=zab h;have mx:x∈xs:=List.mem_of_mem_drop (by rw [h];exact List.mem_cons_self ..);rw [qaj];simp only [h2,h3,h4,cond_true,zgl x t (sx x mx) st,Option.bind_some,qnq,zar (show i<9223372036854775807 by omega),qhp xs t b hx sx st r (i+1) h5];by_cases e:cmpT x t= .eq
  ·have:=(ordT.eq x t).1 e;rw [decide_eq_true e,cond_true,this];simp
  ·have:¬t=x:=fun e'=>e ((ordT.eq x t).2 e'.symm)
   simp [e,this]
theorem qqx [Dfr] (xs:List Tc) (t:Tc) (hx:xs.length≤4611686018427387904) (sx:zgq xs) (st:t.1.length≤4611686018427387904):qhq xs t=some (decide (t∈xs)):=by have e:=qhp xs t false hx sx st xs 0 rfl;rw [Int.natCast_zero] at e;rw [yeo,e,Option.bind_some];by_cases h:t∈xs<;>simp [h,Nat.beq]
theorem qey [Dfr] (a b:List ByteArray) (h:a.length+b.length≤1000000000):qak a b=some (a++b):=by rw [yep];rw [room (show (0+a.length)*16≤140737488355328 by omega),cond_true,List.nil_append,room (show (a.length+b.length)*16≤140737488355328 by omega),cond_true]
theorem zss [Dfr] (p q:Tc) (hl:p.1.length+q.1.length≤1000000000):zqn p q=some (zek p q):=by
 rw [yao];unfold zek;by_cases h:p.2=1
 ·have e:(p.2==1)=true:=by simp [h]
  rw [e,cond_true,qey _ _ hl,if_pos h];rfl
 ·have e:(p.2==1)=false:=by simpa using h
  rw [e,cond_false,if_neg h]
theorem qag [Dfr] (x:ByteArray) (xs:List (List ByteArray)) (hx:xs.length≤1000000000) (hs:∀l∈xs,l.length≤1000000):∀(r:List (List ByteArray)) (i:Nat) (acc:List (List ByteArray)),xs.drop i=r→acc.length≤i→znx x xs acc (i:Int)=some (0,acc++r.map (x:: ·))
 |[],i,acc,h,ha=>by obtain ⟨h1,h2⟩:=drop_nil h;rw [zvp];simp only [h2,cond_false,List.map_nil,List.append_nil]
 |l::r,i,acc,h,ha=>by
  obtain ⟨h1,h2,h3,h4,h5,h6⟩:=zab h;have ml:l∈xs:=List.mem_of_mem_drop (by rw [h];exact List.mem_cons_self ..);have:=hs l ml;rw [zvp];simp only [h2,h3,h4,cond_true,qey [x] l (by simp;omega),Option.bind_some,room (show (acc.length+1)*24≤140737488355328 by omega),zar (show i<9223372036854775807 by omega),
   List.singleton_append,qag x xs hx hs r (i+1) (acc++[x::l]) h5 (by simp;omega),List.map_cons,List.append_assoc]
theorem qhm [Dfr] (x:ByteArray) (xs:List (List ByteArray)) (hx:xs.length≤1000000000) (hs:∀l∈xs,l.length≤1000000):zxm x xs=some (xs.map (x:: ·)):=by have e:=qag x xs hx hs xs 0 [] rfl (by simp);rw [Int.natCast_zero] at e;rw [qur,e];rfl
theorem zxl [Dfr]:∀(a b:List ByteArray),a.length+b.length≤19→zrh a b=some (mixR a b)
 |[],b,h=>by rw [ztu,mixR];rfl
 |x::a,[],h=>by
  have e:(((x::a).length:Int)==0)=false:=by simp;omega
  rw [ztu,mixR,e,cond_false];rfl
 |x::a,y::b,h=>by
  have e1:(((x::a).length:Int)==0)=false:=by simp;omega
  have e2:(((y::b).length:Int)==0)=false:=by simp;omega
  have c1:∀(z:ByteArray) (l:List ByteArray),cut (z::l) 1 ((z::l).length:Int)=l:=fun z l=>qbd (z::l) 1
  have c2:∀(z:ByteArray) (l:List ByteArray),zaw 1 ((z::l).length:Int) (z::l).length=true:=fun z l=>zep (a:=1) (by simp) (Nat.le_refl _)
  simp only [List.length_cons] at h;have h1:=zxl a (y::b) (by simp only [List.length_cons];omega);have h2:=zxl (x::a) b (by simp only [List.length_cons];omega);have l1:=zrn a (y::b);have l2:=zrn (x::a) b;have k1:=qxb a.length (y::b).length;have k2:=qxb (x::a).length b.length;have p1:2 ^ (a.length+(y::b).length)≤2 ^ 19:=Nat.pow_le_pow_right (by omega) (by simp only [List.length_cons];omega);have p2:2 ^ ((x::a).length+b.length)≤2 ^ 19:=Nat.pow_le_pow_right (by omega) (by simp only [List.length_cons];omega);have m1:∀l∈mixR a (y::b),l.length≤1000000:=fun l hl=>by have:=(zqd.1 hl).len;simp only [List.length_cons] at this;omega
  have m2:∀l∈mixR (x::a) b,l.length≤1000000:=fun l hl=>by have:=(zqd.1 hl).len;simp only [List.length_cons] at this;omega
  rw [ztu,mixR];simp only [e1,e2,cond_false,zam (show 0<(x::a).length by simp),zam (show 0<(y::b).length by simp),c1,c2,cond_true,h1,h2,Option.bind_some,xhc,qhm _ _ (show (mixR a (y::b)).length≤1000000000 by omega) m1,
   qhm _ _ (show (mixR (x::a) b).length≤1000000000 by omega) m2,List.length_map,room (show ((mixR a (y::b)).length+(mixR (x::a) b).length)*24≤140737488355328 by omega)]
termination_by a b=>a.length+b.length
theorem qho [Dfr] (p q:Tc) (xs:List (List ByteArray)) (hx:xs.length≤1000000000):∀(r:List (List ByteArray)) (i:Nat) (acc:List Tc),xs.drop i=r→acc.length≤i→zsu p q acc xs (i:Int)=some (0,acc++r.map fun l=>(l,bs p.2 q.2))
 |[],i,acc,h,ha=>by obtain ⟨h1,h2⟩:=drop_nil h;rw [qah];simp only [h2,cond_false,List.map_nil,List.append_nil]
 |x::r,i,acc,h,ha=>by obtain ⟨h1,h2,h3,h4,h5,h6⟩:=zab h;rw [qah];simp only [h2,h3,h4,cond_true,qlu,Option.bind_some,room (show (acc.length+1)*32≤140737488355328 by omega),zar (show i<9223372036854775807 by omega),qho p q xs hx r (i+1) (acc++[(x,bs p.2 q.2)]) h5 (by simp;omega),List.map_cons,List.append_assoc,List.singleton_append]
theorem qex [Dfr] (p q:Tc) (h:p.1.length+q.1.length≤19):qai p q=some (parE (bs p.2 q.2) p.1 q.1):=by have l1:=zrn p.1 q.1;have k1:=qxb p.1.length q.1.length;have p1:2 ^ (p.1.length+q.1.length)≤2 ^ 19:=Nat.pow_le_pow_right (by omega) h;have e:=qho p q (mixR p.1 q.1) (by omega) (mixR p.1 q.1) 0 [] rfl (by simp);rw [Int.natCast_zero,List.nil_append] at e;rw [yen,zxl _ _ h,Option.bind_some,e,Option.bind_some,ziu _ _ (Nat.le_refl _) (by rw [List.length_map];omega) (fun x hx=>by obtain ⟨l,hl,rfl⟩:=List.mem_map.1 hx;have:=(zqd.1 hl).len;show l.length≤_;omega),ypq];rfl
end Go.Proofs.YtjolkdjkhekbnaaGreatDoor.Sv
namespace Go.Rd
open Go Go.Sv
abbrev Qc:=Tc×Tc
def behT (p q:Tc):Tc:=(p.1++q.1,q.2)
def qcn (p q:Tc):Tc:=if p.2=2 then behT p q else p
def goF (x y:Tc):Qc:=(x,if x.2=1 then y else ([],1))
def seqF (a b:Qc):Qc:=if a.1.2=1 then (zek a.1 b.1,zek b.2 a.2) else a
def parF (a b:Qc):List Qc:=(parE (bs a.1.2 b.1.2) a.1.1 b.1.1).flatMap fun p=>(parE (bs a.2.2 b.2.2) a.2.1 b.2.1).map fun q=>(p,q)
def blkF (x:Qc):List Tc:=if x.1.2=1 then [x.1] else if x.1.2=2 then [behT x.1 x.2] else []
def zfc {α β γ:Type} (A:List α) (B:List β) (f:α→β→List γ):List γ:=A.flatMap fun a=>B.flatMap fun b=>f a b
def zjg {α β γ:Type} (A:List α) (B:List β) (f:α→β→γ):List γ:=zfc A B fun a b=>[f a b]
theorem zvv {α β γ:Type} {A:List α} {B:List β} {f:α→β→List γ} {z:γ}:z∈zfc A B f↔∃a∈A,∃b∈B,z∈f a b:=by unfold zfc;simp only [List.mem_flatMap]
theorem zei {α β γ:Type} {A:List α} {B:List β} {f:α→β→γ} {z:γ}:z∈zjg A B f↔∃a∈A,∃b∈B,z=f a b:=by unfold zjg;simp only [zvv,List.mem_singleton]
theorem zfx {α γ:Type} {f:α→List γ} {k:Nat}:∀{A:List α},(∀a∈A,(f a).length≤k)→(A.flatMap f).length≤A.length*k
 |[],_=>by simp
 |a::A,h=>by
  have h1:=h a (List.mem_cons_self ..);have h2:=zfx (A:=A) fun b hb=>h b (List.mem_cons_of_mem _ hb)
  simp only [List.flatMap_cons,List.length_append,List.length_cons,Nat.add_mul,Nat.one_mul];omega
theorem qjy {α β γ:Type} {A:List α} {B:List β} {f:α→β→List γ} {k:Nat} (h:∀a∈A,∀b∈B,(f a b).length≤k):(zfc A B f).length≤A.length*(B.length*k):=
 zfx fun a ha=>zfx fun b hb=>h a ha b hb
theorem qwn {α β γ:Type} {A:List α} {B:List β} {f:α→β→γ}:(zjg A B f).length≤A.length*B.length:=by
 have:=qjy (A:=A) (B:=B) (f:=fun a b=>[f a b]) (k:=1) fun a _ b _=>by simp
 rwa [Nat.mul_one] at this
namespace Tm
def sem:Tm→List Tc×List Qc
 |act s=>(canon cmpT [([s],1)],[])
 |skip=>(canon cmpT [([],1)],[])
 |throw=>(canon cmpT [([],2)],[])
 |yield=>(canon cmpT [([],1),([],3)],[])
 |over s=>(canon cmpT [([],s)],[])
 |seq a b=>(canon cmpT (zjg a.sem.1 b.sem.1 zek),canon cmpQ (zjg a.sem.2 b.sem.2 seqF))
 |alt a b=>(canon cmpT (a.sem.1++b.sem.1),canon cmpQ (a.sem.2++b.sem.2))
 |par a b=>(canon cmpT (zfc a.sem.1 b.sem.1 fun p q=>parE (bs p.2 q.2) p.1 q.1),canon cmpQ (zfc a.sem.2 b.sem.2 parF))
 |hand a b=>(canon cmpT (zjg a.sem.1 b.sem.1 qcn),[])
 |block a=>(canon cmpT (a.sem.2.flatMap blkF),[])
 |pair a b=>([],canon cmpQ (zjg a.sem.1 b.sem.1 goF++[(([],3),([],1))]))
 |going a b=>([],canon cmpQ (zjg a.sem.1 b.sem.1 goF))
 |stack a c=>([],canon cmpQ (zjg a.sem.2 c.sem.1 fun x q=>(x.1,zek x.2 q)))
 |fin s c=>([],canon cmpQ (c.sem.1.map fun q=>(([],s),q)))
def tr (m:Tm):List Tc:=m.sem.1
def pq (m:Tm):List Qc:=m.sem.2
theorem qca {s:ByteArray} {x:Tc}:x∈(act s).tr↔x=([s],1):=(zaz ordT).trans List.mem_singleton
theorem zni {x:Tc}:x∈skip.tr↔x=([],1):=(zaz ordT).trans List.mem_singleton
theorem qmd {x:Tc}:x∈throw.tr↔x=([],2):=(zaz ordT).trans List.mem_singleton
theorem zop {x:Tc}:x∈yield.tr↔x=([],1)∨x=([],3):=(zaz ordT).trans (by simp)
theorem zak {s:Int} {x:Tc}:x∈(over s).tr↔x=([],s):=(zaz ordT).trans List.mem_singleton
theorem zfg {a b:Tm} {x:Tc}:x∈(seq a b).tr↔∃p∈a.tr,∃q∈b.tr,x=zek p q:=(zaz ordT).trans zei
theorem zvs {a b:Tm} {x:Tc}:x∈(alt a b).tr↔x∈a.tr∨x∈b.tr:=(zaz ordT).trans List.mem_append
theorem zeh {a b:Tm} {x:Tc}:x∈(par a b).tr↔∃p∈a.tr,∃q∈b.tr,Mx p.1 q.1 x.1∧x.2=bs p.2 q.2:=by refine (zaz ordT).trans (zvv.trans ?_);simp only [zxn];rfl
theorem zfw {a b:Tm} {x:Tc}:x∈(hand a b).tr↔∃p∈a.tr,∃q∈b.tr,x=qcn p q:=(zaz ordT).trans zei
theorem ymg {z:Qc} {x:Tc}:x∈blkF z↔(z.1.2=1∧x=z.1)∨(z.1.2=2∧x=behT z.1 z.2):=by
 unfold blkF;split
 ·rename_i h;simp [h]
 ·rename_i h;split
  ·rename_i h2;simp [h2]
  ·rename_i h2;simp [h,h2]
theorem zde {a:Tm} {x:Tc}:x∈(block a).tr↔∃z∈a.pq,(z.1.2=1∧x=z.1)∨(z.1.2=2∧x=behT z.1 z.2):=by refine (zaz ordT).trans ?_;simp only [List.mem_flatMap,ymg];rfl
theorem zht {a b:Tm} {x:Qc}:x∈(seq a b).pq↔∃p∈a.pq,∃q∈b.pq,x=seqF p q:=(zaz ordQ).trans zei
theorem zvt {a b:Tm} {x:Qc}:x∈(alt a b).pq↔x∈a.pq∨x∈b.pq:=(zaz ordQ).trans List.mem_append
theorem yme {a b x:Qc}:x∈parF a b↔(Mx a.1.1 b.1.1 x.1.1∧x.1.2=bs a.1.2 b.1.2)∧Mx a.2.1 b.2.1 x.2.1∧x.2.2=bs a.2.2 b.2.2:=by
 unfold parF;simp only [List.mem_flatMap,List.mem_map];constructor
 ·rintro ⟨p,hp,q,hq,rfl⟩;exact ⟨zxn.1 hp,zxn.1 hq⟩
 ·rintro ⟨h1,h2⟩;exact ⟨x.1,zxn.2 h1,x.2,zxn.2 h2,rfl⟩
theorem zfh {a b:Tm} {x:Qc}:x∈(par a b).pq↔∃p∈a.pq,∃q∈b.pq,(Mx p.1.1 q.1.1 x.1.1∧x.1.2=bs p.1.2 q.1.2)∧Mx p.2.1 q.2.1 x.2.1∧x.2.2=bs p.2.2 q.2.2:=by refine (zaz ordQ).trans (zvv.trans ?_);simp only [yme];rfl
theorem zrm {a b:Tm} {x:Qc}:x∈(pair a b).pq↔(∃p∈a.tr,∃q∈b.tr,x=goF p q)∨x=(([],3),([],1)):=by refine (zaz ordQ).trans (List.mem_append.trans ?_);rw [zei,List.mem_singleton];rfl
theorem zdz {a b:Tm} {x:Qc}:x∈(going a b).pq↔∃p∈a.tr,∃q∈b.tr,x=goF p q:=(zaz ordQ).trans zei
theorem zfm {a c:Tm} {x:Qc}:x∈(stack a c).pq↔∃p∈a.pq,∃q∈c.tr,x=(p.1,zek p.2 q):=(zaz ordQ).trans zei
theorem zbc {s:Int} {c:Tm} {x:Qc}:x∈(fin s c).pq↔∃q∈c.tr,x=(([],s),q):=by
 refine (zaz ordQ).trans (List.mem_map.trans ?_);constructor
 ·rintro ⟨q,h,rfl⟩;exact ⟨q,h,rfl⟩
 ·rintro ⟨q,h,rfl⟩;exact ⟨q,h,rfl⟩
theorem yrk:∀m:Tm,Srt cmpT m.tr∧Srt cmpQ m.pq
 |act s|skip|throw|yield|over s|hand a b|block a=>⟨zfj ordT _,.nil⟩
 |seq a b|alt a b|par a b=>⟨zfj ordT _,zfj ordQ _⟩
 |pair a b|going a b|stack a b|fin s a=>⟨.nil,zfj ordQ _⟩
theorem yls (m:Tm):Srt cmpT m.tr:=(yrk m).1
theorem xcx (m:Tm):Srt cmpQ m.pq:=(yrk m).2
theorem zyt {a b:Tm} (h:∀x,x∈a.tr↔x∈b.tr):a.tr=b.tr:=zyy ordT (yls a) (yls b) h
theorem qdh {a b:Tm} (h:∀x,x∈a.pq↔x∈b.pq):a.pq=b.pq:=zyy ordQ (xcx a) (xcx b) h
theorem xav {α:Type}:∀(p q:List α),∃r,Mx p q r
 |[],q=>⟨q,Mx.right q⟩
 |a::p,q=>by obtain ⟨r,h⟩:=xav p q;exact ⟨a::r,.l h⟩
def s12 (s:Int):Prop:=s=1∨s=2
instance (s:Int):Decidable (s12 s):=by unfold s12;infer_instance
theorem ysg {a b:Int} (ha:s12 a) (hb:s12 b):s12 (bs a b):=by rcases ha with rfl|rfl<;>rcases hb with rfl|rfl<;>decide
theorem qyz {p q:Tc} (hp:s12 p.2) (hq:s12 q.2):s12 (zek p q).2:=by
 unfold zek;split
 ·exact hq
 ·exact hp
theorem qba:∀m:Tm,(m.pl=true→∃x∈m.tr,s12 x.2)∧(m.pa=true→∃x∈m.pq,s12 x.1.2∧s12 x.2.2)
 |act s=>⟨fun _=>⟨_,qca.2 rfl,.inl rfl⟩,fun h=>by simp [pa] at h⟩
 |skip=>⟨fun _=>⟨_,zni.2 rfl,.inl rfl⟩,fun h=>by simp [pa] at h⟩
 |throw=>⟨fun _=>⟨_,qmd.2 rfl,.inr rfl⟩,fun h=>by simp [pa] at h⟩
 |yield=>⟨fun _=>⟨_,zop.2 (.inl rfl),.inl rfl⟩,fun h=>by simp [pa] at h⟩
 |over s=>⟨fun h=>by simp [pl] at h,fun h=>by simp [pa] at h⟩
 |seq a b=>by
  refine ⟨fun h=> ?_,fun h=> ?_⟩
  ·simp only [pl,Bool.and_eq_true] at h;obtain ⟨p,hp,hp2⟩:=(qba a).1 h.1;obtain ⟨q,hq,hq2⟩:=(qba b).1 h.2;exact ⟨_,zfg.2 ⟨p,hp,q,hq,rfl⟩,qyz hp2 hq2⟩
  ·simp only [pa,Bool.and_eq_true] at h;obtain ⟨p,hp,hp2,hp3⟩:=(qba a).2 h.1;obtain ⟨q,hq,hq2,hq3⟩:=(qba b).2 h.2;refine ⟨_,zht.2 ⟨p,hp,q,hq,rfl⟩,?_⟩;unfold seqF;split
   ·exact ⟨qyz hp2 hq2,qyz hq3 hp3⟩
   ·exact ⟨hp2,hp3⟩
 |alt a b=>by
  refine ⟨fun h=> ?_,fun h=> ?_⟩
  ·simp only [pl,Bool.and_eq_true] at h;obtain ⟨p,hp,hp2⟩:=(qba a).1 h.1;exact ⟨_,zvs.2 (.inl hp),hp2⟩
  ·simp only [pa,Bool.and_eq_true] at h;obtain ⟨p,hp,hp2⟩:=(qba a).2 h.1;exact ⟨_,zvt.2 (.inl hp),hp2⟩
 |par a b=>by
  refine ⟨fun h=> ?_,fun h=> ?_⟩
  ·simp only [pl,Bool.and_eq_true] at h;obtain ⟨p,hp,hp2⟩:=(qba a).1 h.1;obtain ⟨q,hq,hq2⟩:=(qba b).1 h.2;obtain ⟨r,hr⟩:=xav p.1 q.1;exact ⟨(r,bs p.2 q.2),zeh.2 ⟨p,hp,q,hq,hr,rfl⟩,ysg hp2 hq2⟩
  ·simp only [pa,Bool.and_eq_true] at h;obtain ⟨p,hp,hp2,hp3⟩:=(qba a).2 h.1;obtain ⟨q,hq,hq2,hq3⟩:=(qba b).2 h.2;obtain ⟨r,hr⟩:=xav p.1.1 q.1.1;obtain ⟨s,hs⟩:=xav p.2.1 q.2.1;exact ⟨((r,bs p.1.2 q.1.2),(s,bs p.2.2 q.2.2)),zfh.2 ⟨p,hp,q,hq,⟨hr,rfl⟩,hs,rfl⟩,ysg hp2 hq2,ysg hp3 hq3⟩
 |hand a b=>by
  refine ⟨fun h=> ?_,fun h=>by simp [pa] at h⟩;simp only [pl,Bool.and_eq_true] at h;obtain ⟨p,hp,hp2⟩:=(qba a).1 h.1;obtain ⟨q,hq,hq2⟩:=(qba b).1 h.2;refine ⟨_,zfw.2 ⟨p,hp,q,hq,rfl⟩,?_⟩;unfold qcn;split
  ·exact hq2
  ·exact hp2
 |block a=>by
  refine ⟨fun h=> ?_,fun h=>by simp [pa] at h⟩;simp only [pl] at h;obtain ⟨z,hz,hz2,hz3⟩:=(qba a).2 h;rcases hz2 with h1|h2
  ·exact ⟨_,zde.2 ⟨z,hz,.inl ⟨h1,rfl⟩⟩,.inl h1⟩
  ·exact ⟨_,zde.2 ⟨z,hz,.inr ⟨h2,rfl⟩⟩,hz3⟩
 |pair a b=>by
  refine ⟨fun h=>by simp [pl] at h,fun h=> ?_⟩;simp only [pa,Bool.and_eq_true] at h;obtain ⟨p,hp,hp2⟩:=(qba a).1 h.1;obtain ⟨q,hq,hq2⟩:=(qba b).1 h.2;refine ⟨_,zrm.2 (.inl ⟨p,hp,q,hq,rfl⟩),hp2,?_⟩;show s12 (if p.2=1 then q else ([],1)).2;split
  ·exact hq2
  ·exact .inl rfl
 |going a b|stack a b|fin s a=>⟨fun h=>by simp [pl] at h,fun h=>by simp [pa] at h⟩
theorem ynk {m:Tm} (h:m.pl=true):∃x,x∈m.tr:=by obtain ⟨x,hx,_⟩:=(qba m).1 h;exact ⟨x,hx⟩
theorem xjc {m:Tm} (h:m.pa=true):∃x,x∈m.pq:=by obtain ⟨x,hx,_⟩:=(qba m).2 h;exact ⟨x,hx⟩
def nm:Tm→List ByteArray
 |act s=>[s]
 |skip|throw|yield|over _=>[]
 |seq a b|alt a b|par a b|hand a b|pair a b|going a b|stack a b=>a.nm++b.nm
 |block a|fin _ a=>a.nm
def wsum (f:ByteArray→Nat) (l:List ByteArray):Nat:=(l.map f).sum
section
variable {f:ByteArray→Nat}
theorem qxn:wsum f []=0:=rfl
theorem zdn (l m:List ByteArray):wsum f (l++m)=wsum f l+wsum f m:=by simp [wsum]
theorem yhf {p q r:List ByteArray} (h:Mx p q r):wsum f r=wsum f p+wsum f q:=by
 induction h with
 |nil=>rfl
 |l _ ih=>simp only [wsum,List.map_cons,List.sum_cons] at ih ⊢;omega
 |r _ ih=>simp only [wsum,List.map_cons,List.sum_cons] at ih ⊢;omega
theorem qfx (p q:Tc):wsum f (zek p q).1≤wsum f p.1+wsum f q.1:=by
 unfold zek;split
 ·rw [zdn];exact Nat.le_refl _
 ·omega
theorem zej:∀m:Tm,(∀x∈m.tr,wsum f x.1≤wsum f m.nm)∧(∀x∈m.pq,wsum f x.1.1+wsum f x.2.1≤wsum f m.nm)
 |act s=>⟨fun x hx=>by rw [qca.1 hx];exact Nat.le_refl _,fun x hx=>by cases hx⟩
 |skip=>⟨fun x hx=>by rw [zni.1 hx];exact Nat.le_refl _,fun x hx=>by cases hx⟩
 |throw=>⟨fun x hx=>by rw [qmd.1 hx];exact Nat.le_refl _,fun x hx=>by cases hx⟩
 |yield=>⟨fun x hx=>by rcases zop.1 hx with h|h<;>rw [h]<;>exact Nat.le_refl _,fun x hx=>by cases hx⟩
 |over s=>⟨fun x hx=>by rw [zak.1 hx];exact Nat.le_refl _,fun x hx=>by cases hx⟩
 |seq a b=>⟨fun x hx=>by
  obtain ⟨p,hp,q,hq,rfl⟩:=zfg.1 hx;have h1:=(zej a).1 p hp;have h2:=(zej b).1 q hq;have h3:=qfx (f:=f) p q;rw [nm,zdn];omega,fun x hx=>by
  obtain ⟨p,hp,q,hq,rfl⟩:=zht.1 hx;have h1:=(zej a).2 p hp;have h2:=(zej b).2 q hq;have h3:=qfx (f:=f) p.1 q.1;have h4:=qfx (f:=f) q.2 p.2;rw [nm,zdn];unfold seqF;split
  ·show wsum f (zek p.1 q.1).1+wsum f (zek q.2 p.2).1≤_;omega
  ·omega⟩
 |alt a b=>⟨fun x hx=>by
  rw [nm,zdn];rcases zvs.1 hx with hx|hx
  ·have:=(zej a).1 x hx;omega
  ·have:=(zej b).1 x hx;omega,fun x hx=>by
  rw [nm,zdn];rcases zvt.1 hx with hx|hx
  ·have:=(zej a).2 x hx;omega
  ·have:=(zej b).2 x hx;omega⟩
 |par a b=>⟨fun x hx=>by
  obtain ⟨p,hp,q,hq,e,_⟩:=zeh.1 hx;have h1:=(zej a).1 p hp;have h2:=(zej b).1 q hq;rw [nm,zdn,yhf e];omega,fun x hx=>by
  obtain ⟨p,hp,q,hq,⟨e1,_⟩,e2,_⟩:=zfh.1 hx;have h1:=(zej a).2 p hp;have h2:=(zej b).2 q hq;rw [nm,zdn,yhf e1,yhf e2];omega⟩
 |hand a b=>⟨fun x hx=>by
  obtain ⟨p,hp,q,hq,rfl⟩:=zfw.1 hx;have h1:=(zej a).1 p hp;have h2:=(zej b).1 q hq;rw [nm,zdn];unfold qcn;split
  ·show wsum f (p.1++q.1)≤_;rw [zdn];omega
  ·omega,fun x hx=>by cases hx⟩
 |block a=>⟨fun x hx=>by
  obtain ⟨z,hz,⟨_,rfl⟩|⟨_,rfl⟩⟩:=zde.1 hx
  ·have:=(zej a).2 z hz;rw [nm];omega
  ·have:=(zej a).2 z hz;rw [nm];show wsum f (z.1.1++z.2.1)≤_;rw [zdn];omega,fun x hx=>by cases hx⟩
 |pair a b=>⟨fun x hx=>by (cases hx),fun x hx=>by
  rw [nm,zdn];rcases zrm.1 hx with ⟨p,hp,q,hq,rfl⟩|rfl
  ·have h1:=(zej a).1 p hp;have h2:=(zej b).1 q hq;show wsum f p.1+wsum f (if p.2=1 then q else ([],1)).1≤_;split
   ·omega
   ·rw [qxn];omega
  ·exact Nat.zero_le _⟩
 |going a b=>⟨fun x hx=>by (cases hx),fun x hx=>by
  rw [nm,zdn];obtain ⟨p,hp,q,hq,rfl⟩:=zdz.1 hx;have h1:=(zej a).1 p hp;have h2:=(zej b).1 q hq;show wsum f p.1+wsum f (if p.2=1 then q else ([],1)).1≤_;split
  ·omega
  ·rw [qxn];omega⟩
 |stack a c=>⟨fun x hx=>by (cases hx),fun x hx=>by obtain ⟨p,hp,q,hq,rfl⟩:=zfm.1 hx;have h1:=(zej a).2 p hp;have h2:=(zej c).1 q hq;have h3:=qfx (f:=f) p.2 q;rw [nm,zdn];show wsum f p.1.1+wsum f (zek p.2 q).1≤_;omega⟩
 |fin s c=>⟨fun x hx=>by (cases hx),fun x hx=>by obtain ⟨q,hq,rfl⟩:=zbc.1 hx;have h2:=(zej c).1 q hq;rw [nm];show wsum f []+wsum f q.1≤_;rw [qxn];omega⟩
end
theorem qfy (l:List ByteArray):wsum (fun _=>1) l=l.length:=by
 induction l with
 |nil=>rfl
 |cons a l ih=>simp only [wsum,List.map_cons,List.sum_cons,List.length_cons] at ih ⊢;omega
theorem yur {m:Tm} {x:Tc} (h:x∈m.tr):x.1.length≤m.nm.length:=by
 have:=(zej (f:=fun _=>1) m).1 x h
 rwa [qfy,qfy] at this
theorem yut {m:Tm} {x:Qc} (h:x∈m.pq):x.1.1.length+x.2.1.length≤m.nm.length:=by
 have:=(zej (f:=fun _=>1) m).2 x h
 rwa [qfy,qfy,qfy] at this
def fct:Nat→Nat
 |0=>1
 |n+1=>(n+1)*fct n
theorem qkd:∀n,1≤fct n
 |0=>Nat.le_refl _
 |n+1=>by have:=qkd n;rw [fct,Nat.succ_mul];omega
theorem ymu:∀{m n:Nat},m≤n→fct m≤fct n
 |m,0,h=>by rw [Nat.le_zero.1 h];exact Nat.le_refl _
 |m,n+1,h=>by
  rcases Nat.lt_or_ge n m with h1|h1
  ·rw [show m=n+1 by omega];exact Nat.le_refl _
  ·have:=ymu h1;rw [fct,Nat.succ_mul];omega
theorem qkm:∀m n:Nat,chN m n*(fct m*fct n)=fct (m+n)
 |0,n=>by rw [chN,fct,Nat.zero_add];simp
 |m+1,0=>by rw [zxy,Nat.add_zero];simp [fct]
 |m+1,n+1=>by
  have h1:=qkm m (n+1);have h2:=qkm (m+1) n;rw [chN,Nat.add_mul];have e1:chN m (n+1)*(fct (m+1)*fct (n+1))=(m+1)*fct (m+n+1):=by rw [show m+n+1=m+(n+1) by omega,←h1,fct];simp only [Nat.mul_assoc,Nat.mul_left_comm]
  have e2:chN (m+1) n*(fct (m+1)*fct (n+1))=(n+1)*fct (m+n+1):=by rw [show m+n+1=m+1+n by omega,←h2,show fct (n+1)=(n+1)*fct n from rfl];simp only [Nat.mul_assoc,Nat.mul_left_comm]
  rw [e1,e2,←Nat.add_mul,show m+1+(n+1)=(m+n+1)+1 by omega];rfl
theorem xhh (m n:Nat):fct m*fct n≤fct (m+n):=by
 rw [←qkm m n];have:1≤chN m n:=by
  have h1:=qkm m n;have h2:=qkd (m+n);rcases Nat.eq_zero_or_pos (chN m n) with h|h
  ·rw [h,Nat.zero_mul] at h1;omega
  ·exact h
 exact Nat.le_mul_of_pos_left _ this
theorem qod:∀m n,chN m n=chN n m
 |0,n=>by rw [zxy,chN]
 |m+1,0=>by rw [zxy,chN]
 |m+1,n+1=>by rw [chN,chN,qod m (n+1),qod (m+1) n];omega
theorem xhn:∀m n,chN m n≤chN m (n+1)
 |0,n=>by rw [chN,chN];exact Nat.le_refl _
 |m+1,0=>by rw [zxy,chN];have:=qkm m 1;have h2:=zxy (m+1);omega
 |m+1,n+1=>by have h1:=xhn m (n+1);have h2:=xhn (m+1) n;rw [chN,show chN (m+1) (n+1+1)=chN m (n+1+1)+chN (m+1) (n+1) from by rw [chN]];omega
theorem qoc {m m' n n':Nat} (hm:m≤m') (hn:n≤n'):chN m n≤chN m' n':=by
 have r:∀{a b c:Nat},b≤c→chN a b≤chN a c:=fun {a b c} h=>by
  obtain ⟨d,rfl⟩:=Nat.exists_eq_add_of_le h
  induction d with
  |zero=>exact Nat.le_refl _
  |succ d ih=>exact Nat.le_trans (ih (by omega)) (xhn a (b+d))
 refine Nat.le_trans (r hn) ?_;rw [qod m,qod m'];exact r hm
theorem ykk:∀(m n m' n':Nat),chN m n*chN m' n'≤chN (m+m') (n+n')
 |0,n,m',n'=>by rw [chN,Nat.one_mul];exact qoc (by omega) (by omega)
 |m+1,0,m',n'=>by rw [zxy,Nat.one_mul];exact qoc (by omega) (by omega)
 |m+1,n+1,m',n'=>by have h1:=ykk m (n+1) m' n';have h2:=ykk (m+1) n m' n';rw [chN,Nat.add_mul,show m+1+m'=m+m'+1 by omega,show n+1+n'=n+n'+1 by omega,chN];rw [show n+1+n'=n+n'+1 by omega] at h1;rw [show m+1+m'=m+m'+1 by omega] at h2;omega
def cw:Tm→Nat
 |act _|skip|throw|over _=>1
 |yield=>2
 |seq a b|par a b|hand a b|going a b|stack a b=>a.cw*b.cw
 |alt a b=>a.cw+b.cw
 |pair a b=>a.cw*b.cw+1
 |block a|fin _ a=>a.cw
def leaves:Tm→Nat
 |act _|skip|throw|over _|yield=>1
 |seq a b|par a b|hand a b|going a b|stack a b|alt a b|pair a b=>a.leaves+b.leaves
 |block a|fin _ a=>a.leaves
theorem zbx:∀m:Tm,2*m.leaves≤m.size+1
 |act _|skip|throw|over _|yield=>Nat.le_refl _
 |seq a b=>by have:=zbx a;have:=zbx b;rw [leaves,zau];omega
 |par a b=>by have:=zbx a;have:=zbx b;rw [leaves,zbj];omega
 |hand a b=>by have:=zbx a;have:=zbx b;rw [leaves,zay];omega
 |going a b=>by have:=zbx a;have:=zbx b;rw [leaves,zbo];omega
 |stack a b=>by have:=zbx a;have:=zbx b;rw [leaves,zca];omega
 |alt a b=>by have:=zbx a;have:=zbx b;rw [leaves,zsf];omega
 |pair a b=>by have:=zbx a;have:=zbx b;rw [leaves,zuy];omega
 |block a=>by have:=zbx a;rw [leaves,zan];omega
 |fin _ a=>by have:=zbx a;rw [leaves,zbu];omega
theorem qso:∀m:Tm,1≤m.cw
 |act _|skip|throw|over _=>Nat.le_refl _
 |yield=>by decide
 |seq a b|par a b|hand a b|going a b|stack a b=>by rw [cw];exact Nat.mul_pos (qso a) (qso b)
 |alt a b=>by have:=qso a;rw [cw];omega
 |pair a b=>by rw [cw];omega
 |block a|fin _ a=>by rw [cw];exact qso a
theorem yje {x y a b:Nat} (hx:x+1≤a) (hy:y+1≤b):x*y+x+y+1≤a*b:=by
 have:=Nat.mul_le_mul hx hy;have e:(x+1)*(y+1)=x*y+x+y+1:=by rw [Nat.add_mul,Nat.mul_add];omega
 omega
theorem ygn:∀m:Tm,m.cw+1≤3 ^ m.leaves
 |act _|skip|throw|over _=>by show 1+1≤3 ^ 1;decide
 |yield=>by decide
 |seq a b|par a b|hand a b|going a b|stack a b=>by have h:=yje (ygn a) (ygn b);rw [cw,leaves,Nat.pow_add];omega
 |alt a b=>by have h:=yje (ygn a) (ygn b);have h1:=qso a;have h2:=qso b;rw [cw,leaves,Nat.pow_add];omega
 |pair a b=>by have h:=yje (ygn a) (ygn b);have h1:=qso a;rw [cw,leaves,Nat.pow_add];omega
 |block a|fin _ a=>by rw [cw,leaves];exact ygn a
def big (m:Tm):Nat:=m.cw*fct m.nm.length
theorem ywn {m:Tm} (h1:m.size≤24) (h2:m.nm.length≤6):m.big≤400000000:=by
 have h3:=zbx m;have h4:=ygn m;have h5:3 ^ m.leaves≤3 ^ 12:=Nat.pow_le_pow_right (by omega) (by omega);have h6:=ymu h2;have:m.cw≤531440:=by
  have:3 ^ 12=531441:=by decide
  omega
 have h7:m.big≤531440*fct 6:=Nat.mul_le_mul this h6;have:fct 6=720:=rfl;omega
theorem ywm (a b:Tm) (x:Nat) (hx:x≤a.nm.length+b.nm.length):a.big*b.big≤a.cw*b.cw*fct (a.nm.length+b.nm.length):=by unfold big;rw [Nat.mul_mul_mul_comm];exact Nat.mul_le_mul_left _ (xhh _ _)
theorem qsy {a b m:Tm} (hn:m.nm=a.nm++b.nm) (hc:a.cw*b.cw≤m.cw):a.big*b.big≤m.big:=by refine Nat.le_trans (ywm a b 0 (by omega)) ?_;unfold big;rw [hn,List.length_append];exact Nat.mul_le_mul_right _ hc
theorem ywp {a b m:Tm} (hn:m.nm=a.nm++b.nm) (hc:m.cw=a.cw+b.cw):a.big+b.big≤m.big:=by unfold big;rw [hn,hc,List.length_append,Nat.add_mul];exact Nat.add_le_add (Nat.mul_le_mul_left _ (ymu (by omega))) (Nat.mul_le_mul_left _ (ymu (by omega)))
theorem ywo {a b:Tm}:a.big*(b.big*chN a.nm.length b.nm.length)=(par a b).big:=by unfold big;rw [nm,cw,List.length_append,←qkm];simp only [Nat.mul_assoc,Nat.mul_left_comm,Nat.mul_comm]
theorem ybc (e:Int) (p q:List ByteArray):(parE e p q).length≤chN p.length q.length:=by unfold parE mixS;rw [List.length_map];exact Nat.le_trans (zai _) (Nat.le_of_eq (ziz _ _ _))
theorem xbh (a b:Qc):(parF a b).length≤chN (a.1.1.length+a.2.1.length) (b.1.1.length+b.2.1.length):=by unfold parF;refine Nat.le_trans (zfx (k:=chN a.2.1.length b.2.1.length) fun p _=>by rw [List.length_map];exact ybc _ _ _) ?_;refine Nat.le_trans (Nat.mul_le_mul_right _ (ybc _ _ _)) ?_;exact ykk _ _ _ _
theorem yta {a b:Tm} (ha:a.tr.length≤a.big) (hb:b.tr.length≤b.big):(zfc a.tr b.tr fun p q=>parE (bs p.2 q.2) p.1 q.1).length≤(par a b).big:=by refine Nat.le_trans (qjy (k:=chN a.nm.length b.nm.length) fun p hp q hq=>Nat.le_trans (ybc _ _ _) (qoc (yur hp) (yur hq))) ?_;rw [←ywo];exact Nat.mul_le_mul ha (Nat.mul_le_mul_right _ hb)
theorem yly {a b:Tm} (ha:a.pq.length≤a.big) (hb:b.pq.length≤b.big):(zfc a.pq b.pq parF).length≤(par a b).big:=by refine Nat.le_trans (qjy (k:=chN a.nm.length b.nm.length) fun p hp q hq=>Nat.le_trans (xbh _ _) (qoc (yut hp) (yut hq))) ?_;rw [←ywo];exact Nat.mul_le_mul ha (Nat.mul_le_mul_right _ hb)
theorem zon {α β γ:Type} {A:List α} {B:List β} {f:α→β→γ} {a b m:Tm} (hA:A.length≤a.big) (hB:B.length≤b.big) (hn:m.nm=a.nm++b.nm) (hc:a.cw*b.cw≤m.cw):(zjg A B f).length≤m.big:=
 Nat.le_trans qwn (Nat.le_trans (Nat.mul_le_mul hA hB) (qsy hn hc))
theorem xam {a b:Tm} (ha:a.tr.length≤a.big) (hb:b.tr.length≤b.big):(zjg a.tr b.tr goF).length+1≤(pair a b).big:=by have h1:(zjg a.tr b.tr goF).length≤a.cw*b.cw*fct (a.nm.length+b.nm.length):=Nat.le_trans qwn (Nat.le_trans (Nat.mul_le_mul ha hb) (ywm a b 0 (by omega)));have h2:=qkd (a.nm.length+b.nm.length);unfold big;rw [cw,nm,List.length_append,Nat.add_mul,Nat.one_mul];omega
theorem yer {Q:List Qc}:(Q.flatMap blkF).length≤Q.length:=by
 have:=zfx (f:=blkF) (k:=1) (A:=Q) fun x _=>by unfold blkF;split<;>first|simp|(split<;>simp)
 rwa [Nat.mul_one] at this
theorem zbe:∀m:Tm,m.tr.length≤m.big∧m.pq.length≤m.big
 |act s=>⟨by show _≤1;exact Nat.le_refl _,Nat.zero_le _⟩
 |skip=>⟨by show _≤1;exact Nat.le_refl _,Nat.zero_le _⟩
 |throw=>⟨by show _≤1;exact Nat.le_refl _,Nat.zero_le _⟩
 |over s=>⟨by show _≤1;exact Nat.le_refl _,Nat.zero_le _⟩
 |yield=>⟨zai _,Nat.zero_le _⟩
 |seq a b=>⟨Nat.le_trans (zai _) (zon (zbe a).1 (zbe b).1 rfl (Nat.le_refl _)),Nat.le_trans (zai _) (zon (zbe a).2 (zbe b).2 rfl (Nat.le_refl _))⟩
 |alt a b=>by
  refine ⟨Nat.le_trans (zai _) ?_,Nat.le_trans (zai _) ?_⟩
  ·rw [List.length_append];exact Nat.le_trans (Nat.add_le_add (zbe a).1 (zbe b).1) (ywp rfl rfl)
  ·rw [List.length_append];exact Nat.le_trans (Nat.add_le_add (zbe a).2 (zbe b).2) (ywp rfl rfl)
 |par a b=>⟨Nat.le_trans (zai _) (yta (zbe a).1 (zbe b).1),Nat.le_trans (zai _) (yly (zbe a).2 (zbe b).2)⟩
 |hand a b=>⟨Nat.le_trans (zai _) (zon (zbe a).1 (zbe b).1 rfl (Nat.le_refl _)),Nat.zero_le _⟩
 |block a=>⟨Nat.le_trans (zai _) (Nat.le_trans yer (zbe a).2),Nat.zero_le _⟩
 |pair a b=>⟨Nat.zero_le _,Nat.le_trans (zai _) (by rw [List.length_append];exact xam (zbe a).1 (zbe b).1)⟩
 |going a b=>⟨Nat.zero_le _,Nat.le_trans (zai _) (zon (zbe a).1 (zbe b).1 rfl (Nat.le_refl _))⟩
 |stack a c=>⟨Nat.zero_le _,Nat.le_trans (zai _) (zon (zbe a).2 (zbe c).1 rfl (Nat.le_refl _))⟩
 |fin s c=>⟨Nat.zero_le _,Nat.le_trans (zai _) (by rw [List.length_map];exact (zbe c).1)⟩
theorem zmw:∀m:Tm,m.nm.length=m.row.countP fun x=>decide (x.1∈([1]:List Int))
 |act s|skip|throw|yield|over s=>rfl
 |seq a b=>by rw [nm,List.length_append,zmw a,zmw b,yhw,List.countP_cons_of_neg (by decide),List.countP_append]
 |alt a b=>by rw [nm,List.length_append,zmw a,zmw b,xga,List.countP_cons_of_neg (by decide),List.countP_append]
 |par a b=>by rw [nm,List.length_append,zmw a,zmw b,qzd,List.countP_cons_of_neg (by decide),List.countP_append]
 |hand a b=>by rw [nm,List.length_append,zmw a,zmw b,qze,List.countP_cons_of_neg (by decide),List.countP_append]
 |pair a b=>by rw [nm,List.length_append,zmw a,zmw b,yzi,List.countP_cons_of_neg (by decide),List.countP_append]
 |going a b=>by rw [nm,List.length_append,zmw a,zmw b,qqc,List.countP_cons_of_neg (by decide),List.countP_append]
 |stack a b=>by rw [nm,List.length_append,zmw a,zmw b,qpy,List.countP_cons_of_neg (by decide),List.countP_append]
 |block a=>by rw [nm,zmw a,zvb,List.countP_cons_of_neg (by decide)]
 |fin s a=>by rw [nm,zmw a,qqd,List.countP_cons_of_neg (by simp)]
def small (m:Tm):Prop:=m.size≤24∧m.nm.length≤6
end Tm
def wfNd (n:Nd):Prop:=(Lit.int .i64 n.1).wf=true∧n.2.1.size≤reachBytes∧(Lit.int .i64 n.2.2).wf=true
def yqu (l:List Nd):Prop:=l.length≤reachBytes∧∀x∈l,wfNd x
theorem yqu.names {l:List Nd} (h:yqu l):∀n∈l,n.2.1.size≤9223372036854775807:=fun n hn=>by have:=(h.2 n hn).2.1;unfold reachBytes at this;omega
namespace Tm
def zjb:Tm→Bool
 |over _=>true
 |_=>false
def isFin:Tm→Bool
 |fin _ _=>true
 |_=>false
theorem qlc {a b:Tm} (h:(hand a b).settled):a.settled∧a.zjb=false:=by
 unfold settled at h ⊢;rw [ztj] at h;have hb:=b.zbz;generalize hx:a.st=x at h;cases x<;>simp only [hand'] at h<;>first|(injection h with h1 h2;subst h1;exact ⟨rfl,rfl⟩)|skip
 split at h
 ·have:=congrArg size h;rw [zay] at this;omega
 ·cases h
theorem qpq {a b:Tm} (h:(seq a b).settled):a.settled∧a.zjb=false∧a.isFin=false:=by
 unfold settled at h ⊢;rw [zyb] at h;have hb:=b.zbz;generalize hx:a.st=x at h;cases x<;>simp only [seq'] at h<;>first|(injection h with h1 h2;subst h1;exact ⟨rfl,rfl,rfl⟩)|skip
 ·split at h
  ·have:=congrArg size h;rw [zau] at this;omega
  ·cases h
 ·split at h
  ·generalize b.st=y at h;cases y<;>simp only [zjt] at h<;>cases h
  ·cases h
theorem qgq {a b:Tm} (h:(going a b).settled):a.settled∧a.zjb=false:=by
 unfold settled at h ⊢;rw [zlt] at h;generalize hx:a.st=x at h;cases x<;>simp only [qav] at h<;>first|(injection h with h1 h2;subst h1;exact ⟨rfl,rfl⟩)|skip
 split at h<;>cases h
theorem qgp {a b:Tm} (h:(stack a b).settled):a.settled∧a.isFin=false:=by unfold settled at h ⊢;rw [zkr] at h;generalize hx:a.st=x at h;cases x<;>simp only [zjt] at h<;>first|(injection h with h1 h2;subst h1;exact ⟨rfl,rfl⟩)|cases h
theorem qec {a b:Tm} (h:(par a b).settled):a.settled∧b.settled∧(a.zjb=false∨b.zjb=false)∧(a.isFin=false∨b.isFin=false):=by
 unfold settled at h ⊢;rw [zob] at h;rcases znh a.st b.st with ⟨s,z,_,_,e⟩|⟨s,c,z,d,_,_,e⟩|e
 ·rw [e] at h;cases h
 ·rw [e] at h;cases h
 ·have h0:=h;rw [e] at h;injection h with h1 h2;refine ⟨h1,h2,?_,?_⟩
  ·cases ha:a.zjb with
   |false=>exact .inl rfl
   |true=>
    cases hb:b.zjb with
    |false=>exact .inr rfl
    |true=>exfalso;rw [h1,h2] at h0;cases a<;>cases ha;cases b<;>cases hb;cases h0
  ·cases ha:a.isFin with
   |false=>exact .inl rfl
   |true=>
    cases hb:b.isFin with
    |false=>exact .inr rfl
    |true=>exfalso;rw [h1,h2] at h0;cases a<;>cases ha;cases b<;>cases hb;cases h0
theorem qgr {a:Tm} (h:(block a).settled):a.settled∧(∀s c,a=fin s c→s≠1∧s≠2):=by
 unfold settled at h ⊢;rw [zlu] at h;have hsz:=a.zbz;generalize hx:a.st=x at h hsz;cases x<;>simp only [block'] at h<;>first|(injection h with h1;subst h1;exact ⟨rfl,fun s c e=>by cases e⟩)|skip
 rename_i s c;split at h
 ·cases h
 ·split at h
  ·have h3:=congrArg size h;have h4:=c.zbz;rw [zbu] at hsz;rw [zan] at h3;omega
  ·rename_i h1 h2;injection h with h3;subst h3;exact ⟨rfl,fun s' c' e=>by injection e with e1 _;rw [←e1];exact ⟨h1,h2⟩⟩
def waits:Tm→Bool
 |act _|alt _ _|yield|pair _ _=>true
 |seq a _|hand a _|going a _|stack a _|block a=>a.waits
 |par a b=>a.waits||b.waits
 |_=>false
def wt (w:Nd→Nat) (m:Tm):Nat:=(m.row.map w).sum
section
variable (w:Nd→Nat)
theorem yqq (a b:Tm):(seq a b).wt w=w (nd 5)+(a.wt w+b.wt w):=by simp [wt,yhw]
theorem yqr (a b:Tm):(par a b).wt w=w (nd 7)+(a.wt w+b.wt w):=by simp [wt,qzd]
theorem yqs (a b:Tm):(hand a b).wt w=w (nd 8)+(a.wt w+b.wt w):=by simp [wt,qze]
theorem qxm (a:Tm):(block a).wt w=w (nd 9)+a.wt w:=by simp [wt,zvb]
theorem ylg (a b:Tm):(going a b).wt w=w (nd 12)+(a.wt w+b.wt w):=by simp [wt,qqc]
theorem ylf (a b:Tm):(stack a b).wt w=w (nd 13)+(a.wt w+b.wt w):=by simp [wt,qpy]
theorem qcq (s:Int) (a:Tm):(fin s a).wt w=w (14,ByteArray.empty,s)+a.wt w:=by simp [wt,qqd]
theorem qjc (s:Int):(over s).wt w=w (11,ByteArray.empty,s):=by simp [wt]
theorem xfe:skip.wt w=w (nd 2):=by simp [wt]
structure Light:Prop where
 skip:w (nd 2)=0
 over:∀s,w (11,ByteArray.empty,s)=0
 fin:∀s,w (14,ByteArray.empty,s)=0
 seq:w (nd 5)=0
 stack:w (nd 13)=0
theorem xic (L:Light w):∀m:Tm,m.st.wt w≤m.wt w:=by
 intro m;refine qbl (p:=fun m=>m.st.wt w≤m.wt w) (fun m ih=> ?_) m;have hst:∀x c:Tm,(zjt x c).wt w≤x.wt w+c.wt w:=fun x c=>by
  cases x<;>simp only [zjt]<;>first|(rw [ylf,L.stack];omega)|skip
  rename_i s d;rw [qcq,yqq,qcq,L.fin,L.seq];omega
 cases m with
 |act s=>rw [zyx];exact Nat.le_refl _
 |skip=>rw [zti,qjc,L.over];omega
 |throw=>rw [zpp,qjc,L.over];omega
 |yield=>rw [zkq];exact Nat.le_refl _
 |over s=>rw [zgf];exact Nat.le_refl _
 |alt a b=>rw [qgi];exact Nat.le_refl _
 |pair a b=>rw [zwj];exact Nat.le_refl _
 |fin s a=>rw [zpj];exact Nat.le_refl _
 |hand a b=>
  have h1:=ih a (by rw [zay];omega);have h2:=ih b (by rw [zay];omega);rw [ztj,yqs];generalize a.st=x at h1;cases x<;>simp only [hand']<;>first|(rw [yqs];omega)|skip
  split
  ·omega
  ·rw [qjc,L.over];omega
 |seq a b=>
  have h1:=ih a (by rw [zau];omega);have h2:=ih b (by rw [zau];omega);rw [zyb,yqq];generalize a.st=x at h1;cases x<;>simp only [seq']<;>first|(rw [yqq];omega)|skip
  ·split
   ·omega
   ·rw [qjc,L.over];omega
  ·rename_i s c;split
   ·rw [qcq,L.fin] at h1;have:=hst b.st c;omega
   ·omega
 |stack a c=>have h1:=ih a (by rw [zca];omega);rw [zkr,ylf];have:=hst a.st c;omega
 |going a b=>
  have h1:=ih a (by rw [zbo];omega);rw [zlt,ylg];generalize a.st=x at h1;cases x<;>simp only [qav]<;>first|(rw [ylg];omega)|skip
  split
  ·rw [qcq,L.fin];omega
  ·rw [qcq,L.fin,xfe,L.skip];omega
 |par a b=>
  have h1:=ih a (by rw [zbj];omega);have h2:=ih b (by rw [zbj];omega);rw [zob,yqr];rcases znh a.st b.st with ⟨s,z,_,_,e⟩|⟨s,c,z,d,e1,e2,e⟩|e
  ·rw [e,qjc,L.over];omega
  ·rw [e,qcq,yqr,L.fin];rw [e1,qcq,L.fin] at h1;rw [e2,qcq,L.fin] at h2;omega
  ·rw [e,yqr];omega
 |block a=>
  have h1:=ih a (by rw [zan];omega);have hsz:=a.zbz;rw [zlu,qxm];generalize a.st=x at h1 hsz;cases x<;>simp only [block']<;>first|(rw [qxm];omega)|skip
  rename_i s c;rw [qcq,L.fin] at h1;split
  ·rw [qjc,L.over];omega
  ·split
   ·have:=ih c (by rw [zan];rw [zbu] at hsz;omega);omega
   ·rw [qxm,qcq,L.fin];omega
end
end Tm
theorem qge (q:Tc):zek ([],1) q=q:=by simp [zek]
namespace Tm
end Tm
namespace Tm
theorem ycm {a a' b b':Tm} (h:a.tr=a'.tr) (k:b.tr=b'.tr):(seq a b).tr=(seq a' b').tr:=zyt fun x=>by rw [zfg,zfg,h,k]
theorem qxz {a a' b b':Tm} (h:a.tr=a'.tr) (k:b.tr=b'.tr):(hand a b).tr=(hand a' b').tr:=zyt fun x=>by rw [zfw,zfw,h,k]
theorem ycn {a a' b b':Tm} (h:a.tr=a'.tr) (k:b.tr=b'.tr):(par a b).tr=(par a' b').tr:=zyt fun x=>by rw [zeh,zeh,h,k]
theorem qts {a a':Tm} (h:a.pq=a'.pq):(block a).tr=(block a').tr:=zyt fun x=>by rw [zde,zde,h]
theorem yew {a a' b b':Tm} (h:a.pq=a'.pq) (k:b.pq=b'.pq):(seq a b).pq=(seq a' b').pq:=qdh fun x=>by rw [zht,zht,h,k]
theorem yex {a a' b b':Tm} (h:a.pq=a'.pq) (k:b.pq=b'.pq):(par a b).pq=(par a' b').pq:=qdh fun x=>by rw [zfh,zfh,h,k]
theorem qdg {a a' c c':Tm} (h:a.pq=a'.pq) (k:c.tr=c'.tr):(stack a c).pq=(stack a' c').pq:=qdh fun x=>by rw [zfm,zfm,h,k]
theorem qus {a a' b b':Tm} (h:a.tr=a'.tr) (k:b.tr=b'.tr):(going a b).pq=(going a' b').pq:=qdh fun x=>by rw [zdz,zdz,h,k]
theorem yev (x c:Tm):(zjt x c).pq=(stack x c).pq:=by
 cases x with
 |fin s d=>
  refine qdh fun z=> ?_
  show z∈(fin s (seq d c)).pq↔_;rw [zbc,zfm];constructor
  ·rintro ⟨q,hq,rfl⟩;obtain ⟨u,hu,v,hv,rfl⟩:=zfg.1 hq;exact ⟨_,zbc.2 ⟨u,hu,rfl⟩,v,hv,rfl⟩
  ·rintro ⟨p,hp,q,hq,rfl⟩;obtain ⟨u,hu,rfl⟩:=zbc.1 hp;exact ⟨_,zfg.2 ⟨u,hu,q,hq,rfl⟩,rfl⟩
 |_=>rfl
theorem xfg (x y:Tm) (hx:x.po=true) (hy:y.po=true):(par' x y).tr=(par x y).tr:=by
 rcases znh x y with ⟨s,z,rfl,rfl,e⟩|⟨s,c,z,d,rfl,rfl,e⟩|e
 ·rw [e];refine zyt fun w=> ?_
  rw [zak,zeh];constructor
  ·rintro rfl;exact ⟨_,zak.2 rfl,_,zak.2 rfl,.nil,rfl⟩
  ·rintro ⟨p,hp,q,hq,h1,h2⟩;rw [zak.1 hp,zak.1 hq] at h1 h2;exact Prod.ext h1.qrh h2
 ·simp [po] at hx
 ·rw [e]
theorem xgp (x y:Tm) (hx:x.qo=true) (hy:y.qo=true):(par' x y).pq=(par x y).pq:=by
 rcases znh x y with ⟨s,z,rfl,rfl,e⟩|⟨s,c,z,d,rfl,rfl,e⟩|e
 ·simp [qo] at hx
 ·rw [e];refine qdh fun w=> ?_
  rw [zbc,zfh];constructor
  ·rintro ⟨q,hq,rfl⟩;obtain ⟨u,hu,v,hv,h1,h2⟩:=zeh.1 hq;exact ⟨_,zbc.2 ⟨u,hu,rfl⟩,_,zbc.2 ⟨v,hv,rfl⟩,⟨.nil,rfl⟩,h1,h2⟩
  ·rintro ⟨p,hp,q,hq,⟨h1,h2⟩,h3,h4⟩;obtain ⟨u,hu,rfl⟩:=zbc.1 hp;obtain ⟨v,hv,rfl⟩:=zbc.1 hq;exact ⟨w.2,zeh.2 ⟨u,hu,v,hv,h3,h4⟩,Prod.ext (Prod.ext h1.qrh h2) rfl⟩
 ·rw [e]
theorem yhi {s:Int} {b:Tm} (hs:s≠1) (hb:∃x,x∈b.tr):(seq (over s) b).tr=(over s).tr:=zyt fun x=>by
 rw [zfg,zak];constructor
 ·rintro ⟨p,hp,q,hq,rfl⟩;rw [zak.1 hp];unfold zek;rw [if_neg hs]
 ·rintro rfl;obtain ⟨q,hq⟩:=hb;exact ⟨_,zak.2 rfl,q,hq,by unfold zek;rw [if_neg hs]⟩
theorem yco {s:Int} {b:Tm} (hs:s≠2) (hb:∃x,x∈b.tr):(hand (over s) b).tr=(over s).tr:=zyt fun x=>by
 rw [zfw,zak];constructor
 ·rintro ⟨p,hp,q,hq,rfl⟩;rw [zak.1 hp];unfold qcn;rw [if_neg hs]
 ·rintro rfl;obtain ⟨q,hq⟩:=hb;exact ⟨_,zak.2 rfl,q,hq,by unfold qcn;rw [if_neg hs]⟩
theorem yon {s:Int} {c b:Tm} (hs:s≠1) (hb:∃x,x∈b.pq):(seq (fin s c) b).pq=(fin s c).pq:=qdh fun x=>by
 rw [zht];constructor
 ·rintro ⟨p,hp,q,hq,rfl⟩;have hp':=hp;obtain ⟨u,hu,rfl⟩:=zbc.1 hp';unfold seqF;rw [if_neg hs];exact hp
 ·intro hx;obtain ⟨q,hq⟩:=hb;refine ⟨x,hx,q,hq,?_⟩;obtain ⟨u,hu,rfl⟩:=zbc.1 hx;unfold seqF;rw [if_neg hs]
theorem yix {c b:Tm}:(seq (fin 1 c) b).pq=(stack b c).pq:=qdh fun x=>by
 rw [zht,zfm];constructor
 ·rintro ⟨p,hp,q,hq,rfl⟩;obtain ⟨u,hu,rfl⟩:=zbc.1 hp;refine ⟨q,hq,u,hu,?_⟩;unfold seqF;rw [if_pos rfl,qge]
 ·rintro ⟨p,hp,q,hq,rfl⟩;refine ⟨_,zbc.2 ⟨q,hq,rfl⟩,p,hp,?_⟩;unfold seqF;rw [if_pos rfl,qge]
theorem qxy (b:Tm):(hand (over 2) b).tr=b.tr:=zyt fun x=>by
 rw [zfw];constructor
 ·rintro ⟨p,hp,q,hq,rfl⟩;rw [zak.1 hp];exact hq
 ·exact fun h=>⟨_,zak.2 rfl,x,h,rfl⟩
theorem ycp (b:Tm):(seq (over 1) b).tr=b.tr:=zyt fun x=>by
 rw [zfg];constructor
 ·rintro ⟨p,hp,q,hq,rfl⟩;rw [zak.1 hp,qge];exact hq
 ·exact fun h=>⟨_,zak.2 rfl,x,h,(qge x).symm⟩
theorem ylq:∀m:Tm,(m.po=true→m.st.tr=m.tr)∧(m.qo=true→m.st.pq=m.pq):=by
 intro m
 induction m using qbl with
 |h m ih=>
  cases m with
  |act s=>rw [zyx];exact ⟨fun _=>rfl,fun _=>rfl⟩
  |yield=>rw [zkq];exact ⟨fun _=>rfl,fun _=>rfl⟩
  |skip=>rw [zti];exact ⟨fun _=>rfl,fun h=>by simp [qo] at h⟩
  |throw=>rw [zpp];exact ⟨fun _=>rfl,fun h=>by simp [qo] at h⟩
  |over s=>rw [zgf];exact ⟨fun _=>rfl,fun _=>rfl⟩
  |alt a b=>rw [qgi];exact ⟨fun _=>rfl,fun _=>rfl⟩
  |pair a b=>rw [zwj];exact ⟨fun _=>rfl,fun _=>rfl⟩
  |fin s a=>rw [zpj];exact ⟨fun _=>rfl,fun _=>rfl⟩
  |hand a b=>
   refine ⟨fun h=> ?_,fun h=>by simp [qo] at h⟩;simp only [po,Bool.and_eq_true] at h;have ha:=(ih a (by rw [zay];omega)).1 h.1;have hb:=(ih b (by rw [zay];omega)).1 (zbv h.2);have hne:=ynk h.2;rw [ztj,qxz (b:=b) ha.symm rfl];cases hx:a.st with
   |over s=>
    simp only [hand'];split
    ·rename_i h2;rw [hb,h2,qxy]
    ·rename_i h2;rw [yco h2 hne]
   |_=>rfl
  |seq a b=>
   refine ⟨fun h=> ?_,fun h=> ?_⟩
   ·simp only [po,Bool.and_eq_true] at h;have ha:=(ih a (by rw [zau];omega)).1 h.1;have hb:=(ih b (by rw [zau];omega)).1 (zbv h.2);have hne:=ynk h.2;have hpo:=qyl h.1;rw [zyb,ycm (b:=b) ha.symm rfl];cases hx:a.st with
    |over s=>
     simp only [seq'];split
     ·rename_i h2;rw [hb,h2,ycp]
     ·rename_i h2;rw [yhi h2 hne]
    |fin s c=>rw [hx] at hpo;simp [po] at hpo
    |_=>rfl
   ·simp only [qo,Bool.and_eq_true] at h;have ha:=(ih a (by rw [zau];omega)).2 h.1;have hb:=(ih b (by rw [zau];omega)).2 (zhe h.2);have hne:=xjc h.2;have hqo:=qyk h.1;rw [zyb,yew (b:=b) ha.symm rfl];cases hx:a.st with
    |over s=>rw [hx] at hqo;simp [qo] at hqo
    |fin s c=>
     simp only [seq'];split
     ·rename_i h2;rw [yev,h2,yix];exact qdg hb rfl
     ·rename_i h2;rw [yon h2 hne]
    |_=>rfl
  |stack a c=>refine ⟨fun h=>by simp [po] at h,fun h=> ?_⟩;simp only [qo,Bool.and_eq_true] at h;have ha:=(ih a (by rw [zca];omega)).2 h.1;rw [zkr,yev];exact qdg ha rfl
  |going a b=>
   refine ⟨fun h=>by simp [po] at h,fun h=> ?_⟩;simp only [qo,Bool.and_eq_true] at h;have ha:=(ih a (by rw [zbo];omega)).1 h.1;have hne:=ynk h.2;rw [zlt,qus (b:=b) ha.symm rfl];cases hx:a.st with
   |over s=>
    simp only [qav];split
    ·rename_i h2;subst h2;refine qdh fun x=> ?_
     rw [zbc,zdz];constructor
     ·rintro ⟨q,hq,rfl⟩;exact ⟨_,zak.2 rfl,q,hq,rfl⟩
     ·rintro ⟨p,hp,q,hq,rfl⟩;rw [zak.1 hp];exact ⟨q,hq,rfl⟩
    ·rename_i h2;refine qdh fun x=> ?_
     rw [zbc,zdz];constructor
     ·rintro ⟨q,hq,rfl⟩;obtain ⟨y,hy⟩:=hne;refine ⟨_,zak.2 rfl,y,hy,?_⟩;rw [zni.1 hq];unfold goF;rw [if_neg h2]
     ·rintro ⟨p,hp,q,hq,rfl⟩;rw [zak.1 hp];refine ⟨_,zni.2 rfl,?_⟩;unfold goF;rw [if_neg h2]
   |_=>rfl
  |par a b=>
   refine ⟨fun h=> ?_,fun h=> ?_⟩
   ·simp only [po,Bool.and_eq_true] at h;have ha:=(ih a (by rw [zbj];omega)).1 h.1;have hb:=(ih b (by rw [zbj];omega)).1 h.2;rw [zob,xfg _ _ (qyl h.1) (qyl h.2)];exact ycn ha hb
   ·simp only [qo,Bool.and_eq_true] at h;have ha:=(ih a (by rw [zbj];omega)).2 h.1;have hb:=(ih b (by rw [zbj];omega)).2 h.2;rw [zob,xgp _ _ (qyk h.1) (qyk h.2)];exact yex ha hb
  |block a=>
   refine ⟨fun h=> ?_,fun h=>by simp [qo] at h⟩;simp only [po] at h;have ha:=(ih a (by rw [zan];omega)).2 h;have hqo:=qyk h;have hsz:=zbz a;rw [zlu,qts ha.symm];cases hx:a.st with
   |fin s c=>
    rw [hx] at hqo hsz;simp only [qo] at hqo;rw [zbu] at hsz;simp only [block'];split
    ·rename_i h1;subst h1;refine zyt fun x=> ?_
     rw [zak,zde];constructor
     ·rintro rfl;obtain ⟨q,hq⟩:=ynk hqo;exact ⟨_,zbc.2 ⟨q,hq,rfl⟩,.inl ⟨rfl,rfl⟩⟩
     ·rintro ⟨z,hz,h⟩;obtain ⟨q,hq,rfl⟩:=zbc.1 hz;rcases h with ⟨_,rfl⟩|⟨h,_⟩
      ·rfl
      ·exact absurd (show (1:Int)=2 from h) (by decide)
    ·split
     ·rename_i h1 h2;subst h2;rw [(ih c (by rw [zan];omega)).1 (zbv hqo)];refine zyt fun x=> ?_
      rw [zde];constructor
      ·exact fun hx=>⟨_,zbc.2 ⟨x,hx,rfl⟩,.inr ⟨rfl,rfl⟩⟩
      ·rintro ⟨z,hz,h⟩;obtain ⟨q,hq,rfl⟩:=zbc.1 hz;rcases h with ⟨h,_⟩|⟨_,rfl⟩
       ·exact absurd (show (2:Int)=1 from h) (by decide)
       ·exact hq
     ·rfl
   |_=>rfl
end Tm
end Go.Rd
