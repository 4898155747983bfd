/- What the functions of package row compute: in plain words. -/
import Derived.Test.YtjolkdjkhekbnaaGreatDoorM11
set_option linter.unusedVariables false
set_option linter.unusedSimpArgs false
namespace Go.Proofs.YtjolkdjkhekbnaaGreatDoor.Sv
open Go Go.Sv Go.Rd
theorem znc [Dfr] (k:Int):zlz k=some (arI k):=by
 rw [ydt];by_cases h1:k=1; · subst h1;rfl
 by_cases h2:k=2; · subst h2;rfl
 by_cases h3:k=3; · subst h3;rfl
 by_cases h4:k=4; · subst h4;rfl
 by_cases h5:k=5; · subst h5;rfl
 by_cases h6:k=6; · subst h6;rfl
 by_cases h7:k=7; · subst h7;rfl
 by_cases h8:k=8; · subst h8;rfl
 by_cases h9:k=9; · subst h9;rfl
 by_cases h10:k=10; · subst h10;rfl
 by_cases h11:k=11; · subst h11;rfl
 by_cases h12:k=12; · subst h12;rfl
 by_cases h13:k=13; · subst h13;rfl
 by_cases h14:k=14; · subst h14;rfl
 have e:∀c:Int,¬k=c→(k==c)=false:=fun c h=>beq_false_of_ne h
 simp only [e _ h1,e _ h2,e _ h3,e _ h4,e _ h5,e _ h6,e _ h7,e _ h8,e _ h9,e _ h10,e _ h11,e _ h12,e _ h13,e _ h14,cond_false];simp [arI,ar, *]
theorem yoc [Dfr] (xs ys:List Nd) (hx:xs.length≤4611686018427387904):qzg xs ys=some (decide (xs=ys)):=by rw [yia,zuv xs ys hx];rfl
def scan:Nat→List Nd→Option Nat
 |_,[]=>none
 |k,n::l=>match ar n.1 with
  |none=>none
  |some m=>if k+m=1 then some 1 else (scan (k+m-1) l).map (· +1)
theorem ydi [Dfr] (k:Nat) (n:Nd) (l:List Nd):scan k (n::l)=match ar n.1 with
 |none=>none
 |some m=>if k+m=1 then some 1 else (scan (k+m-1) l).map (· +1):=rfl
theorem xiy [Dfr]:∀(n:Nat) (l:List Nd) (k:Nat),l.length≤n→scan (k+1) l=match P l with
 |none=>none
 |some (t,r)=>if k=0 then some t.size else (scan k r).map (t.size+ ·):=by
 intro n
 induction n with
 |zero=>intro l k h;have:l=[]:=List.eq_nil_of_length_eq_zero (by omega);subst this;rfl
 |succ n ih=>
  intro l k h;cases l with
  |nil=>rfl
  |cons x l=>
   simp only [List.length_cons] at h;rw [xfa,ydi];cases ha:ar x.1 with
   |none=>rfl
   |some m=>
    have hm:=ywr ha;rcases m with _|_|_|m
    ·simp only [Nat.add_zero];by_cases hk:k=0
     ·simp [hk,T.size]
     ·rw [if_neg (by omega)];simp only [hk,if_false,Nat.add_sub_cancel,T.size]
      congr 1;funext q;omega
    ·simp only;rw [if_neg (by omega),show k+1+(0+1)-1=k+1 by omega,ih l k (by omega)];cases hp:P l with
     |none=>rfl
     |some q=>
      obtain ⟨a,r⟩:=q;simp only;by_cases hk:k=0
      ·simp [hk,T.size]
      ·simp only [hk,if_false,Option.map_map,T.size]
       congr 1;funext q;simp only [Function.comp];omega
    ·simp only;rw [if_neg (by omega),show k+1+(0+1+1)-1=k+1+1 by omega,ih l (k+1) (by omega)];cases hp:P l with
     |none=>rfl
     |some q=>
      obtain ⟨a,r⟩:=q;simp only;rw [if_neg (by omega)];have hl:=congrArg List.length (zyl hp).2;rw [List.length_append,T.zac] at hl;rw [ih r k (by omega)];cases hp2:P r with
      |none=>rfl
      |some q2=>
       obtain ⟨b,r2⟩:=q2;simp only;by_cases hk:k=0
       ·simp [hk,T.size]
       ·simp only [hk,if_false,Option.map_map,T.size]
        congr 1;funext q;simp only [Function.comp];omega
    ·omega
theorem qli [Dfr] (l:List Nd) (y:Int) (hl:l.length≤1000000000000):∀(r:List Nd) (i k:Nat),l.drop i=r→1≤k→k+r.length*2≤4000000000000→zww y (k:Int) l (l.length:Int) (i:Int)=some (match scan k r with|some n=>(1,((i+n:Nat):Int))|none=>(0,y))
 |[],i,k,h,hk,hb=>by obtain ⟨h1,h2⟩:=drop_nil h;rw [qcw];simp only [h2,cond_false,scan]
 |x::r,i,k,h,hk,hb=>by
  obtain ⟨h1,h2,h3,h4,h5,h6⟩:=zab h;simp only [List.length_cons] at hb;rw [qcw];simp only [h2,h3,h4,cond_true,znc,Option.bind_some];rw [ydi];cases ha:ar x.1 with
  |none=>simp only [arI,ha];rfl
  |some m=>
   have hm:=ywr ha;have e1:arI x.1=(m:Int):=by simp [arI,ha]
   have e2:decide ((m:Int)<0)=false:=decide_eq_false (by omega);have e3:w64 ((k:Int)+w64 ((m:Int)-1))=((k+m-1:Nat):Int):=by rw [zfi (n:=(m:Int)-1) (by omega) (by omega),zfi (by omega) (by omega)];omega
   simp only [e1,e2,cond_false,e3,zar (show i<9223372036854775807 by omega)];by_cases hz:k+m=1
   ·have e4:(((k+m-1:Nat):Int)==0)=true:=by rw [hz];rfl
    rw [if_pos hz];simp only [e4,cond_true]
   ·have e4:(((k+m-1:Nat):Int)==0)=false:=beq_false_of_ne (by omega);rw [if_neg hz];simp only [e4,cond_false];rw [qli l y hl r (i+1) (k+m-1) h5 (by omega) (by omega)];cases scan (k+m-1) r with
    |none=>rfl
    |some n=>simp only [Option.map_some];congr 3;omega
theorem zvc [Dfr] (l:List Nd) (hl:l.length≤1000000000):zly l=some (sz l:Int):=by
 rw [yhz];have h:=qli l 0 (by omega) l 0 1 rfl (by omega) (by omega);rw [xiy l.length l 0 (Nat.le_refl _)] at h;rw [Int.natCast_zero,show ((1:Nat):Int)=1 from rfl] at h;rw [h];unfold sz;cases P l with
 |none=>rfl
 |some q=>simp [Nat.beq]
theorem zjl [Dfr] (l:List Nd) (hl:l.length≤1000000000):zha l=some (zea l):=by
 rw [yid];simp only [zvc l hl,Option.bind_some];unfold zea sz;cases h:P l with
 |none=>rfl
 |some q=>
  obtain ⟨t,r⟩:=q;obtain ⟨hok,hl2⟩:=zyl h;have hp:=t.zda;have e0:(((t.size:Nat):Int)==0)=false:=beq_false_of_ne (by omega);simp only [e0,cond_false];have szd:∀(i:Nat) (a:T) (s:List Nd),a.ok→l.drop i=a.row++s→i≤l.length→zaw (i:Int) (l.length:Int) l.length=true∧zly (cut l (i:Int) (l.length:Int))=some (a.size:Int)∧w64 ((i:Int)+(a.size:Int))=((i+a.size:Nat):Int)∧zdl (cut l (i:Int) ((i+a.size:Nat):Int))=some a.row:=by
   intro i a s ha hd hi;obtain ⟨k1,k2,k3,k4⟩:=zgw hd;refine ⟨zep hi (Nat.le_refl _),?_,?_,?_⟩
   ·rw [qbd,hd,zvc _ (by have:=congrArg List.length hd;rw [List.length_drop] at this;omega)];unfold sz;rw [qfr ha]
   ·rw [zfi (by omega) (by omega)];omega
   ·rw [k1,zlk _ (by rw [T.zac];omega)]
  cases t with
  |n0 n=>
   have ha:ar n.1=some 0:=hok;have hix:ix l 0=n:=by rw [hl2];rfl
   have hid:zaa 0 l.length=true:=zam (by rw [hl2];simp [T.row]);simp only [hid,hix,cond_true,znc,Option.bind_some,arI,ha];rw [zhr];rfl
  |n1 n a=>
   have ha:ar n.1=some 1:=hok.1;have hix:ix l 0=n:=by rw [hl2];rfl
   have hid:zaa 0 l.length=true:=zam (by rw [hl2];simp [T.row]);have hd1:l.drop 1=a.row++r:=by rw [hl2];rfl
   obtain ⟨k1,k2,k3,k4⟩:=zgw hd1;obtain ⟨s1,s2,s3,s4⟩:=szd 1 a r hok.2 hd1 (by omega);simp only [hid,hix,cond_true,znc,Option.bind_some,arI,ha];rw [zhr,show decide ((0:Int)<((1:Nat):Int))=true from rfl,show (1:Int)=((1:Nat):Int) from rfl];simp only [cond_true,s1,s2,s3,s4,k4,Option.bind_some,room (show (([]:List (List Nd)).length+1)*24≤140737488355328 by decide)];rw [zhr];rfl
  |n2 n a b=>
   have ha:ar n.1=some 2:=hok.1;have hix:ix l 0=n:=by rw [hl2];rfl
   have hid:zaa 0 l.length=true:=zam (by rw [hl2];simp [T.row]);have hd1:l.drop 1=a.row++(b.row++r):=by rw [hl2];simp [T.row]
   obtain ⟨k1,k2,k3,k4⟩:=zgw hd1;obtain ⟨s1,s2,s3,s4⟩:=szd 1 a _ hok.2.1 hd1 (by omega);obtain ⟨j1,j2,j3,j4⟩:=zgw k2;obtain ⟨u1,u2,u3,u4⟩:=szd (1+a.size) b _ hok.2.2 k2 k3;simp only [hid,hix,cond_true,znc,Option.bind_some,arI,ha];rw [zhr,show decide ((0:Int)<((2:Nat):Int))=true from rfl,show (1:Int)=((1:Nat):Int) from rfl];simp only [cond_true,s1,s2,s3,s4,k4,Option.bind_some,room (show (([]:List (List Nd)).length+1)*24≤140737488355328 by decide)];rw [zhr,show decide (w64 (0+((1:Nat):Int))<((2:Nat):Int))=true from rfl];simp only [cond_true,u1,u2,u3,u4,j4,Option.bind_some,List.nil_append,room (show (([a.row]:List (List Nd)).length+1)*24≤140737488355328 by simp)];rw [zhr];rfl
theorem qbp [Dfr] (n:Nd) (ks:List (List Nd)) (hx:zhk ks≤1000000) (hn:ks.length≤1000000):zbr n ks=some (n::ks.flatten):=by rw [yic,ztn ks (by omega) (by omega)];have:=zth ks;simp only [Option.bind_some,room (show (1+ks.flatten.length)*32≤140737488355328 by omega),cond_true];rfl
theorem ysm [Dfr] (n:Nd) (a b:List Nd) (ha:a.length≤100000) (hb:b.length≤100000):zbr n [a,b]=some (n::(a++b)):=by rw [qbp n [a,b] (by simp [zhk];omega) (by simp)];simp
theorem ydr [Dfr] (n:Nd) (a:List Nd) (ha:a.length≤100000):zbr n [a]=some (n::a):=by rw [qbp n [a] (by simp [zhk];omega) (by simp)];simp
def letters:ByteArray:=⟨#[97,98,99,100,101,102,103,104,105,106,107,108,109,110,111,112,113,114,115,116,117,118,119,120,121,122]⟩
theorem yjo [Dfr] (b:UInt8):letters.data.toList.contains b=lowB b:=by
 have h:∀n:Nat,n<256→letters.data.toList.contains (UInt8.ofNat n)=lowB (UInt8.ofNat n):=by decide +kernel
 have:=h b.toNat b.toNat_lt
 rwa [UInt8.ofNat_toNat] at this
theorem qio [Dfr] {p:UInt8→Bool}:∀{l:List UInt8},l.dropWhile p=[]↔l.all p=true
 |[]=>by simp
 |x::r=>by
  rw [List.dropWhile_cons,List.all_cons];cases h:p x with
  |true=>simpa using qio (l:=r)
  |false=>simp
theorem qip [Dfr] {p:UInt8→Bool}:∀{l:List UInt8},(l.dropWhile p).all p=true↔l.all p=true
 |[]=>by simp
 |x::r=>by
  rw [List.dropWhile_cons,List.all_cons];cases h:p x with
  |true=>simpa using qip (l:=r)
  |false=>simp [h]
theorem yws [Dfr] {p:UInt8→Bool} (l:List UInt8):l.reverse.all p=l.all p:=by rw [Bool.eq_iff_iff,List.all_eq_true,List.all_eq_true];exact ⟨fun h x hx=>h x (List.mem_reverse.2 hx),fun h x hx=>h x (List.mem_reverse.1 hx)⟩
theorem yqz [Dfr] (l cs:List UInt8):Lib.trimS l cs=[]↔l.all (cs.contains ·)=true:=by unfold Lib.trimS Lib.trimLeftS Lib.trimRightS;rw [qio,yws,qip,yws]
theorem yhx [Dfr] (s:ByteArray):qqa s=some (qmx s):=by
 rw [ydn];simp only [str_eq,qsi];by_cases h0:s=ByteArray.empty
 ·subst h0;rfl
 ·have hsz:1≤s.size:=by
   rcases Nat.eq_zero_or_pos s.size with h|h
   ·exfalso;apply h0;obtain ⟨⟨l⟩⟩:=s;have:l=[]:=List.eq_nil_of_length_eq_zero h;rw [this];rfl
   ·exact h
  simp only [decide_eq_false h0,Bool.not_false,cond_true];by_cases h8:s.size≤8
  ·have e2:decide ((s.size:Int)≤8)=true:=decide_eq_true (by omega);have ht:zyv s (⟨#[97,98,99,100,101,102,103,104,105,106,107,108,109,110,111,112,113,114,115,116,117,118,119,120,121,122]⟩)=some ⟨(Lib.trimS s.data.toList letters.data.toList).toArray⟩:=by rw [qov];unfold zjj qnh;rw [decide_eq_true (show s.size≤9223372036854775807 by omega)];rfl
   have e3:decide ((⟨(Lib.trimS s.data.toList letters.data.toList).toArray⟩:ByteArray)=ByteArray.empty)=s.data.toList.all lowB:=by
    rw [show (ByteArray.empty:ByteArray)=⟨([]:List UInt8).toArray⟩ from rfl];have e4:((⟨(Lib.trimS s.data.toList letters.data.toList).toArray⟩:ByteArray)=⟨([]:List UInt8).toArray⟩)↔Lib.trimS s.data.toList letters.data.toList=[]:=by
     constructor
     ·intro h;injection h with h;injection h
     ·intro h;rw [h]
    have this:(fun x=>letters.data.toList.contains x)=lowB:=funext yjo;have e5:=e4.trans (yqz s.data.toList letters.data.toList);rw [this] at e5;cases hA:s.data.toList.all lowB with
    |true=>exact decide_eq_true (e5.2 hA)
    |false=>exact decide_eq_false fun h=>by rw [e5.1 h] at hA;cases hA
   simp only [e2,cond_true,ht,Option.bind_some,e3,ztm zzk s (by decide),qmx];rw [show zzk=ylh from rfl,decide_eq_true hsz,decide_eq_true h8];cases s.data.toList.all lowB<;>rfl
  ·have e2:decide ((s.size:Int)≤8)=false:=decide_eq_false (by omega);simp [e2,qmx,h8]
theorem yib [Dfr] (n:Nd):qqg n=some (right n):=by
 rw [ydq];simp only [znc,Option.bind_some,str_eq,qsi,yhx,int_eq,decide_true,Bool.true_and];unfold right;by_cases h1:n.1=1
 ·simp only [h1,decide_true,cond_true,if_true];cases qmx n.2.1<;>cases decide (n.2.2=0)<;>rfl
 ·by_cases h2:n.1=11
  ·simp [h2,zkw];by_cases c1:n.2.1=ByteArray.empty<;>by_cases c2:1≤n.2.2<;>simp [c1,c2]
  ·by_cases h3:n.1=14
   ·simp [h3,zkw];by_cases c1:n.2.1=ByteArray.empty<;>by_cases c2:1≤n.2.2<;>simp [c1,c2]
   ·simp only [h1,h2,h3,decide_false,cond_false,or_self,if_false];have e:decide (arI n.1≥0)=(ar n.1).isSome:=by
     unfold arI;cases ar n.1 with
     |none=>rfl
     |some m=>simp
    rw [e];by_cases c1:n.2.1=ByteArray.empty<;>by_cases c2:n.2.2=0<;>cases (ar n.1).isSome<;>simp [c1,c2]
theorem qzf [Dfr] (n:Nd):qeg n=some (!right n):=by rw [qub,yib];rfl
theorem yhy [Dfr] (l:List Nd) (hl:l.length≤4611686018427387904):qqf l=some (whole l):=by
 rw [ydo];unfold whole;rw [xkg];by_cases h1:1≤l.length
 ·have e1:decide ((l.length:Int)>0)=true:=decide_eq_true (by omega);by_cases h2:l.length≤200
  ·have e2:decide ((l.length:Int)≤200)=true:=decide_eq_true (by omega);have hc:=zmz l ⟨ztr,[]⟩ (fun n=> !right n) (by omega) (fun x hx=>by rw [qqe];exact qzf x);have ea:(!(l.any fun n=> !right n))=l.all right:=by rw [List.not_any_eq_all_not];simp
   simp only [e1,e2,cond_true,hc,Option.bind_some,ea,zvc l (by omega),int_eq,h1,h2,decide_true,and_true,Bool.true_and];cases l.all right with
   |false=>rfl
   |true=>
    simp only [cond_true,Bool.true_and]
    congr 1
    rw [decide_eq_decide];omega
  ·have e2:decide ((l.length:Int)≤200)=false:=decide_eq_false (by omega);simp only [e1,e2,cond_true,cond_false,h2,decide_false,Bool.false_and,Bool.and_false]
 ·have e1:decide ((l.length:Int)>0)=false:=decide_eq_false (by omega);simp only [e1,cond_false,h1,and_false,decide_false,Bool.and_false]
theorem qej [Dfr] (ks:List Int) (l:List Nd) (hl:l.length≤1000000000) (hk:ks.length≤1000):∀(r:List Nd) (i n:Nat),l.drop i=r→n≤i→zoh ks (n:Int) l (l.length:Int) (i:Int)=some (0,((n+r.countP (fun x=>decide (x.1∈ks)):Nat):Int))
 |[],i,n,h,hn=>by obtain ⟨h1,h2⟩:=drop_nil h;rw [zzl];simp only [h2,cond_false,List.countP_nil,Nat.add_zero]
 |x::r,i,n,h,hn=>by
  obtain ⟨h1,h2,h3,h4,h5,h6⟩:=zab h;rw [zzl];simp only [h2,h3,h4,cond_true,zmu ks _ (show ks.length≤4611686018427387904 by omega),Option.bind_some,zar (show i<9223372036854775807 by omega),zar (show n<9223372036854775807 by omega),List.countP_cons];cases h7:decide (x.1∈ks) with
  |true=>
   simp only [cond_true,qej ks l hl hk r (i+1) (n+1) h5 (by omega),if_true]
   congr 3;omega
  |false=>simp only [cond_false,qej ks l hl hk r (i+1) n h5 (by omega),Bool.false_eq_true,if_false,Nat.add_zero]
theorem qei [Dfr] (l:List Nd) (ks:List Int) (hl:l.length≤1000000000) (hk:ks.length≤1000):zzm l ks=some ((l.countP (fun x=>decide (x.1∈ks)):Nat):Int):=by rw [yds];have:=qej ks l hl hk l 0 0 rfl (by omega);rw [Int.natCast_zero] at this;rw [this,Nat.zero_add];rfl
open Go Go.Sv Go.Proofs Go.Rd Go.RowKit
set_option maxRecDepth 100000
theorem Cl.lift [Dfr] {F F':Nat→Prop} {w:World} (h:∀b,F' b→F b) {t:Ty} {x:t.den} {cs:List Value} (hc:Cl F w t x cs):Cl F' w t x cs:=
 Cl.step ⟨fun _ _ _=>rfl,fun b hb=>.inl (h b hb)⟩ hc
theorem qpz [Dfr] {F:Nat→Prop} {T:Fr} {w:World} {e:TypeId} {u:Ty} {xs:List u.den} {g:Tag} {v:Value} (hF:∀n b l,T.tg n=some (b,l)→¬F b) (hx:g≠.nil) (h:RC (T.F F) T w (.slice e u xs g) v):Cl F w (.slice e u) xs [v]:=by
 have hsub:∀b,F b→T.F F b:=fun b hb=>.inl hb
 cases g with
 |no=>exact Cl.lift hsub h
 |nil=>exact absurd rfl hx
 |exact=>exact Cl.lift hsub h.1
 |own n=>
  rcases h with ⟨_,rfl,a,rfl⟩|⟨b,l,ht,h1,cap,cur,rfl,hh,hc,hm,hs,hel⟩
  ·rw [Cl];exact ⟨a,0,rfl,Nat.le_refl _,.inl rfl⟩
  ·rw [Cl];refine ⟨_,cap,rfl,hc,.inr ⟨_,rfl,hF n b l ht,fun i x hi=> ?_⟩⟩;obtain ⟨ds,hd,hj⟩:=hel i x hi;refine ⟨ds,Cl.lift hsub hd,fun j u hu=> ?_⟩;have:=hj j u hu;rw [zhj,cell_of_block hh,Nat.zero_add];exact this
theorem zix [Dfr] [zdv] (f:Nat) (x:Tup (E.sig f).args) (r:Tup (E.sig f).res) (hrun:∃q,run E q f x=some r) {W:World} {F:Nat→Prop} {vs:List Value} (hF:∀b,F b→b<W.heap.size) (hg:zdp E F W)
 (hargs:All2 (fun (p:Nat×PV) v=>RP F ⟨fun _=>none,fun _=>none⟩ W p.2 v) (zlp 0 (E.sig f).args x) vs):
 Calls Tryz.prog f vs.toArray W fun e w'=>∃v,e= .returned v∧Kept (fun _=>False) W w'∧∃T:Fr,RP (T.F F) T w' (qzi 0 (E.sig f).res r) v∧(∀d,T.bx d=none)∧∀n b l,T.tg n=some (b,l)→¬F b:=by
 obtain ⟨q,hq⟩:=hrun;obtain ⟨hf,hct⟩:=zog yge q f x r hq;have hFr:∀b,Fr.F ⟨fun _=>none,fun _=>none⟩ F b→F b:=fun b h=>by
  rcases h with h|⟨d,h⟩|⟨n,l,h⟩
  ·exact h
  ·cases h
  ·cases h
 have hst:Step F (Fr.F ⟨fun _=>none,fun _=>none⟩ F) W W:=⟨fun _ _ _=>rfl,fun b h=>.inl (hFr b h)⟩;have hargs':All2 (fun (p:Nat×PV) v=>RP (Fr.F ⟨fun _=>none,fun _=>none⟩ F) ⟨fun _=>none,fun _=>none⟩ W p.2 v) (zlp 0 (E.sig f).args x) vs:=by
  have e:Fr.F ⟨fun _=>none,fun _=>none⟩ F=F:=funext fun b=>propext ⟨hFr b,fun h=>.inl h⟩
  rw [e];exact hargs
 refine (hct W F (fun _=>False) ⟨fun _=>none,fun _=>none⟩ vs ⟨hargs',fun _=>rfl,fun n b l h=>(by cases h),fun n n' b l l' h=>(by cases h),fun b h=>⟨hF b h,fun h=>h⟩,hg.step hst⟩).mono ?_;rintro e w' ⟨v,rfl,hk,hr⟩;obtain ⟨T,hT⟩:=hr 0;refine ⟨v,rfl,hk,T,hT.rel,hT.bx,fun n b l h hFb=> ?_⟩;rcases (hT.tgm n b l h).1 with h1|h1
 ·have:=hF b hFb;omega
 ·exact h1
open Go Go.Sv Go.Proofs Go.Rd Go.RowKit Go.MapKept
def qfq (es:Array MapEntry):Prop:=∀x∈es.toList,∃s,x.key= .string s
theorem qfq.isKey {es:Array MapEntry} (h:qfq es):∀x∈es.toList,IsKey .string x.key:=fun x hx=>by obtain ⟨s,e⟩:=h x hx;rw [e];trivial
theorem qrn {P:Program} {w:World} {mty kt et:TypeId} {mb clk:Nat} {es:Array MapEntry} {k:ByteArray} (hu:P.underlying mty=some (.map kt et)) (hk:P.underlying kt=some .string) (hb:w.heap[mb]? =some (.map es clk)) (hks:qfq es):
 (∃e∈es.toList,e.key= .string k∧(Instr.lookup mty (.map (some mb)) (.string k) true).run P w= .ok (.tuple #[e.val,.bool true]) w∧(Instr.lookup mty (.map (some mb)) (.string k) false).run P w= .ok e.val w)∨
 ((∀e∈es.toList,e.key≠.string k)∧∀z,(zeroValue et).run P w= .ok z w→(Instr.lookup mty (.map (some mb)) (.string k) true).run P w= .ok (.tuple #[z,.bool false]) w):=by
 have hik:IsKey .string (.string k):=trivial;rcases findNow_spec hik es.toList 0 hks.isKey with ⟨h1,h2⟩|⟨j,e,h1,h2,h3⟩
 ·refine .inr ⟨h2,fun z hz=> ?_⟩;have hck:(Instr.checkKey es.isEmpty 10000 kt (.string k)).run P w= .ok () w:=MapKept.run_checkKey hk hik _ 9999;simp [Instr.lookup,run_underlying hu,MapKept.run_getObj_map hb,hck,MapKept.run_findKey hk h1,hz,Result.andThen]
 ·have hck:(Instr.checkKey es.isEmpty 10000 kt (.string k)).run P w= .ok () w:=MapKept.run_checkKey hk hik _ 9999;refine .inl ⟨e,List.mem_of_getElem? h2,h3,?_,?_⟩
  ·simp [Instr.lookup,run_underlying hu,MapKept.run_getObj_map hb,hck,MapKept.run_findKey hk h1,Result.andThen]
  ·simp [Instr.lookup,run_underlying hu,MapKept.run_getObj_map hb,hck,MapKept.run_findKey hk h1,Result.andThen]
def putO (w:World) (b:Nat) (o:Obj):World:={w with heap:=w.heap.setIfInBounds b o}
theorem yjh {P:Program} {w:World} {mty kt et:TypeId} {mb clk:Nat} {es:Array MapEntry} {k:ByteArray} (v:Value) (hu:P.underlying mty=some (.map kt et)) (hk:P.underlying kt=some .string) (hb:w.heap[mb]? =some (.map es clk)) (hks:qfq es):
 ∃es' clk',(Instr.mapUpdate mty (.map (some mb)) (.string k) v).run P w= .ok () (putO w mb (.map es' clk'))∧(∀e∈es'.toList,e∈es.toList∨(e.key= .string k∧e.val=v))∧∃e∈es'.toList,e.key= .string k:=by
 have hik:IsKey .string (.string k):=trivial;have hck:(Instr.checkKey false 10000 kt (.string k)).run P w= .ok () w:=MapKept.run_checkKey hk hik _ 9999;rcases findNow_spec hik es.toList 0 hks.isKey with ⟨h1,h2⟩|⟨j,e,h1,h2,h3⟩
 ·refine ⟨es.push ⟨.string k,v,clk⟩,clk+1,?_,fun e he=> ?_,⟨.string k,v,clk⟩,by simp,rfl⟩
  ·simp [Instr.mapUpdate,run_underlying hu,MapKept.run_getObj_map hb,hck,MapKept.run_findKey hk h1,MapKept.run_setObj_map _ hb,Result.andThen,putO]
  ·rw [Array.toList_push,List.mem_append,List.mem_singleton] at he;rcases he with he|rfl
   ·exact .inl he
   ·exact .inr ⟨rfl,rfl⟩
 ·have hj:es[j]? =some e:=by simpa using h2
  have hlt:j<es.size:=(Array.getElem?_eq_some_iff.1 hj).1;have hje:es[j]=e:=(Array.getElem?_eq_some_iff.1 hj).2;refine ⟨es.modify j fun x=>{x with key:=.string k,val:=v},clk,?_,fun x hx=> ?_,{e with key:=.string k,val:=v},?_,rfl⟩
  ·simp [Instr.mapUpdate,run_underlying hu,MapKept.run_getObj_map hb,hck,MapKept.run_findKey hk h1,hj,h3,MapKept.run_keyThatStays hik,MapKept.run_setObj_map _ hb,Result.andThen,putO]
  ·obtain ⟨i,hi⟩:=List.mem_iff_getElem?.1 hx;have hi':(es.modify j fun x=>{x with key:=.string k,val:=v})[i]? =some x:=by rw [←Array.getElem?_toList];exact hi
   rw [Array.getElem?_modify] at hi';split at hi'
   ·cases hc:es[i]? with
    |none=>rw [hc] at hi';cases hi'
    |some y=>rw [hc] at hi';cases hi';exact .inr ⟨rfl,rfl⟩
   ·exact .inl (List.mem_iff_getElem?.2 ⟨i,by simpa using hi'⟩)
  ·refine List.mem_iff_getElem?.2 ⟨j,?_⟩;have:(es.modify j fun x=>{x with key:=.string k,val:=v})[j]? =some {e with key:=.string k,val:=v}:=by rw [Array.getElem?_modify,if_pos rfl,hj];rfl
   rw [Array.getElem?_toList];exact this
theorem ypd [Dfr] (m:Tm) {n:Nd} (h:m.t= .n0 n) (hs:m.size≤100000):zha m.row=some []:=by rw [zjl _ (by rw [Tm.zac];omega),qcb,h];rfl
theorem xbk [Dfr] (m:Tm) {n:Nd} {a:Tm} (h:m.t= .n1 n a.t) (hs:m.size≤100000):zha m.row=some [a.row]:=by rw [zjl _ (by rw [Tm.zac];omega),qcb,h];rfl
theorem yfu [Dfr] (m:Tm) {n:Nd} {a b:Tm} (h:m.t= .n2 n a.t b.t) (hs:m.size≤100000):zha m.row=some [a.row,b.row]:=by rw [zjl _ (by rw [Tm.zac];omega),qcb,h];rfl
theorem zzn [Dfr] (m:Tm) {n:Nd} (h:m.t= .n0 n) (hs:m.size≤100000):zcr m.row=some []:=by rw [zit _ (by rw [Tm.zac];omega),qcb,h];rfl
theorem qvz [Dfr] (m:Tm) {n:Nd} {a:Tm} (h:m.t= .n1 n a.t) (hs:m.size≤100000):zcr m.row=some [a.row]:=by rw [zit _ (by rw [Tm.zac];omega),qcb,h];rfl
theorem zra [Dfr] (m:Tm) {n:Nd} {a b:Tm} (h:m.t= .n2 n a.t b.t) (hs:m.size≤100000):zcr m.row=some [a.row,b.row]:=by rw [zit _ (by rw [Tm.zac];omega),qcb,h];rfl
theorem zuq [Dfr] (x:Int):zqt x=some (on x):=by
 rw [ynq];by_cases h1:x=1; · subst h1;rfl
 by_cases h2:x=2; · subst h2;rfl
 simp only [beq_false_of_ne h1,beq_false_of_ne h2,cond_false,on,h1,h2,or_self,if_false]
theorem yhq [Dfr] (x y:Int):qgk x y=some (both x y):=by
 rw [ydc];simp only [zuq,Option.bind_some,both];by_cases h:on x=on y
 ·have:(on x != on y)=false:=by simp [h]
  rw [this,if_pos h];rfl
 ·have:(on x != on y)=true:=by simp [h]
  rw [this,if_neg h];rfl
theorem qyn [Dfr] (x y z:Int):zqu x y z=some (behind x y z):=by
 rw [qtu];simp only [zuq,Option.bind_some,behind];by_cases h:y=z
 ·have:(y != z)=false:=by simp [h]
  rw [this,if_pos h,cond_false];by_cases h':on x=on z
  ·have:(on x != on z)=false:=by simp [h']
   rw [this,if_pos h'];rfl
  ·have:(on x != on z)=true:=by simp [h']
   rw [this,if_neg h'];rfl
 ·have:(y != z)=true:=by simp [h]
  rw [this,if_neg h];rfl
theorem yrp [Dfr] (l a b:List Nd) {x y:Int} (ha:zez a=some x) (hb:zez b=some y):zlg l 0 [] [a,b] (([a,b]:List (List Nd)).length:Int) 0=some (if x=0 then (1,(l,0,[])) else if y=0 then (1,(l,0,[x])) else (0,(l,0,[x,y]))):=by
 rw [zgg];simp only [show decide ((0:Int)<(([a,b]:List (List Nd)).length:Int))=true from rfl,show zaa 0 ([a,b]:List (List Nd)).length=true from rfl,cond_true,show ix [a,b] 0=a from rfl,ha,Option.bind_some];by_cases h:x=0
 ·simp [h]
 ·simp only [beq_false_of_ne h,cond_false,if_neg h,room (show (([]:List Int).length+1)*8≤140737488355328 by decide),cond_true,List.nil_append];rw [zgg];simp only [show decide (w64 (0+1)<(([a,b]:List (List Nd)).length:Int))=true from rfl,show zaa (w64 (0+1)) ([a,b]:List (List Nd)).length=true from rfl,cond_true,show ix [a,b] (w64 (0+1))=b from rfl,hb,Option.bind_some];by_cases h':y=0
  ·simp [h']
  ·simp only [beq_false_of_ne h',cond_false,if_neg h',room (show (([x]:List Int).length+1)*8≤140737488355328 by simp),cond_true];rw [zgg];rfl
theorem ydb [Dfr] (l a:List Nd) {x:Int} (ha:zez a=some x):zlg l 0 [] [a] (([a]:List (List Nd)).length:Int) 0=some (if x=0 then (1,(l,0,[])) else (0,(l,0,[x]))):=by
 rw [zgg];simp only [show decide ((0:Int)<(([a]:List (List Nd)).length:Int))=true from rfl,show zaa 0 ([a]:List (List Nd)).length=true from rfl,cond_true,show ix [a] 0=a from rfl,ha,Option.bind_some];by_cases h:x=0
 ·simp [h]
 ·simp only [beq_false_of_ne h,cond_false,if_neg h,room (show (([]:List Int).length+1)*8≤140737488355328 by decide),cond_true,List.nil_append];rw [zgg];rfl
theorem yrq [Dfr] (l:List Nd):zlg l 0 [] [] (([]:List (List Nd)).length:Int) 0=some (0,(l,0,[])):=by rw [zgg];rfl
theorem zwk [Dfr] {m a b:Tm} {k x y:Int} (hk:k=5∨k=6∨k=7∨k=8∨k=10∨k=12∨k=13) (h:m.t= .n2 (nd k) a.t b.t) (hs:m.size≤100000) (ha:zez a.row=some x) (hb:zez b.row=some y):zez m.row=some (so2 k x y):=by
 rw [zsd,yfu m h hs];simp only [Option.bind_some,yrp m.row a.row b.row ha hb];by_cases h0:x=0
 ·simp [h0,so2,Nat.beq]
 by_cases h1:y=0
 ·simp [h0,h1,so2,Nat.beq]
 have hrow:m.row=nd k::(a.row++b.row):=by unfold Tm.row;rw [h];rfl
 have hid:zaa 0 m.row.length=true:=by rw [hrow];exact zam (by simp)
 have hix:(ix m.row 0).1=k:=by rw [hrow];rfl
 simp only [if_neg h0,if_neg h1,Nat.beq_refl,cond_true,hid,hix,yhq,qyn,zuq,show zaa 0 ([x,y]:List Int).length=true from rfl,show zaa 1 ([x,y]:List Int).length=true from rfl,show ix [x,y] 0=x from rfl,show ix [x,y] 1=y from rfl,Option.bind_some,int_eq];unfold so2;rw [if_neg h0,if_neg h1];rcases hk with rfl|rfl|rfl|rfl|rfl|rfl|rfl
 ·rfl
 ·by_cases c1:x>2<;>by_cases c2:y>2<;>simp [c1,c2]
 ·rfl
 ·rfl
 ·by_cases c1:x=1<;>by_cases c2:y=1<;>simp [c1,c2]
 ·by_cases c1:on x=3<;>by_cases c2:y=1<;>simp [c1,c2]
 ·by_cases c1:on x=4<;>by_cases c2:y=1<;>simp [c1,c2]
theorem yro [Dfr] {a:Tm} {x:Int} (hs:(Tm.block a).size≤100000) (hx:0≤x∧x≤4) (ha:zez a.row=some x):zez (Tm.block a).row=some (so1 9 x):=by
 rw [zsd,xbk (.block a) rfl hs];simp only [Option.bind_some,ydb (Tm.block a).row a.row ha];by_cases h0:x=0
 ·simp [h0,so1,Nat.beq]
 have hid:zaa 0 (Tm.block a).row.length=true:=by rw [Tm.zvb];exact zam (by simp)
 have hix:(ix (Tm.block a).row 0).1=9:=rfl;simp only [if_neg h0,Nat.beq_refl,cond_true,hid,hix,zuq,show zaa 0 ([x]:List Int).length=true from rfl,show ix [x] 0=x from rfl,Option.bind_some,int_eq];unfold so1;rw [if_neg h0];rw [zfi (by omega) (by omega)];by_cases c1:on x=4<;>simp [c1]
theorem ynp [Dfr] {a:Tm} {s x:Int} (hs:(Tm.fin s a).size≤100000) (ha:zez a.row=some x):zez (Tm.fin s a).row=some (so1 14 x):=by
 rw [zsd,xbk (.fin s a) rfl hs];simp only [Option.bind_some,ydb (Tm.fin s a).row a.row ha];by_cases h0:x=0
 ·simp [h0,so1,Nat.beq]
 have hid:zaa 0 (Tm.fin s a).row.length=true:=by rw [Tm.qqd];exact zam (by simp)
 have hix:(ix (Tm.fin s a).row 0).1=14:=rfl;simp only [if_neg h0,Nat.beq_refl,cond_true,hid,hix,zuq,show zaa 0 ([x]:List Int).length=true from rfl,show ix [x] 0=x from rfl,Option.bind_some,int_eq];unfold so1;rw [if_neg h0];by_cases c1:x=1<;>simp [c1]
theorem zyz [Dfr] {m:Tm} {n:Nd} (h:m.t= .n0 n) (hk:n.1=1∨n.1=2∨n.1=3∨n.1=4∨n.1=11):zez m.row=some (if n.1=11 then 3 else 1):=by
 have hs:m.size≤100000:=by unfold Tm.size;rw [h];simp [T.size]
 have hrow:m.row=[n]:=by unfold Tm.row;rw [h];rfl
 rw [zsd,ypd m h hs];simp only [Option.bind_some,yrq,Nat.beq_refl,cond_true];rw [hrow];simp only [show zaa 0 ([n]:List Nd).length=true from rfl,show ix [n] 0=n from rfl,cond_true];rcases hk with e|e|e|e|e<;>rw [e]<;>rfl
theorem yhp [Dfr] (m:Tm) (hs:m.size≤100000):zez m.row=some m.so:=by
 induction m with
 |act s=>rw [zyz (m:=.act s) rfl (.inl rfl)];rfl
 |skip=>rw [zyz (m:=.skip) rfl (.inr (.inl rfl))];rfl
 |throw=>rw [zyz (m:=.throw) rfl (.inr (.inr (.inl rfl)))];rfl
 |yield=>rw [zyz (m:=.yield) rfl (.inr (.inr (.inr (.inl rfl))))];rfl
 |over s=>rw [zyz (m:=.over s) rfl (.inr (.inr (.inr (.inr rfl))))];rfl
 |block a ih=>rw [yro hs a.ylu (ih (by rw [Tm.zan] at hs;omega)),Tm.yyx]
 |fin s a ih=>rw [ynp hs (ih (by rw [Tm.zbu] at hs;omega)),Tm.xis]
 |seq a b iha ihb=>rw [zwk (m:=.seq a b) (by simp) rfl hs (iha (by rw [Tm.zau] at hs;omega)) (ihb (by rw [Tm.zau] at hs;omega)),Tm.xiq]
 |alt a b iha ihb=>rw [zwk (m:=.alt a b) (by simp) rfl hs (iha (by rw [Tm.zsf] at hs;omega)) (ihb (by rw [Tm.zsf] at hs;omega)),Tm.xit]
 |par a b iha ihb=>rw [zwk (m:=.par a b) (by simp) rfl hs (iha (by rw [Tm.zbj] at hs;omega)) (ihb (by rw [Tm.zbj] at hs;omega)),Tm.xir]
 |hand a b iha ihb=>rw [zwk (m:=.hand a b) (by simp) rfl hs (iha (by rw [Tm.zay] at hs;omega)) (ihb (by rw [Tm.zay] at hs;omega)),Tm.xfr]
 |pair a b iha ihb=>rw [zwk (m:=.pair a b) (by simp) rfl hs (iha (by rw [Tm.zuy] at hs;omega)) (ihb (by rw [Tm.zuy] at hs;omega)),Tm.xfq]
 |going a b iha ihb=>rw [zwk (m:=.going a b) (by simp) rfl hs (iha (by rw [Tm.zbo] at hs;omega)) (ihb (by rw [Tm.zbo] at hs;omega)),Tm.yyw]
 |stack a b iha ihb=>rw [zwk (m:=.stack a b) (by simp) rfl hs (iha (by rw [Tm.zca] at hs;omega)) (ihb (by rw [Tm.zca] at hs;omega)),Tm.yyu]
theorem yrr [Dfr] (l:List Nd) (hl:l.length≤4611686018427387904):qyo l=some (sOf l):=by
 rw [yns,yhy l hl,qvo];unfold sOf;simp only [Option.bind_some];cases h:tmOf l with
 |none=>rfl
 |some m=>obtain ⟨rfl,h2,h3⟩:=zih.1 h;simp only [Option.isSome_some,Bool.not_true,cond_false,yhp m (by omega),Option.bind_some]
theorem ydd [Dfr] (l:List Nd) (b:Bool) (hl:l.length≤4611686018427387904):qpe l b=some (decide (on (sOf l)=if b then 4 else 3)):=by rw [ynr];cases b<;>simp only [yrr l hl,zuq,Option.bind_some,cond_true,cond_false,int_eq,if_true,if_false]<;>rfl
theorem xbo [Dfr] (l:List Nd) (ks:List (List Nd)) (h:zcr l=some ks) {p q po qo:Bool} (h1:znf l ks=some p) (h2:zln l ks=some q) (h3:zmh l ks=some po) (h4:zkj l ks=some qo):
 zal l 1=some p∧zal l 2=some q∧zal l 3=some (p||po)∧zal l 4=some (q||qo):=by
 refine ⟨?_,?_,?_,?_⟩<;>rw [yiq,h]<;>simp only [Option.bind_some,h1,h2,h3,h4]
 ·rfl
 ·rfl
 ·cases p<;>rfl
 ·cases q<;>rfl
def IsS [Dfr] (m:Tm):Prop:=zal m.row 1=some m.pl∧zal m.row 2=some m.pa∧zal m.row 3=some m.po∧zal m.row 4=some m.qo
theorem qry [Dfr] {m:Tm} {n:Nd} (h:m.t= .n0 n) {p po:Bool} (hp:m.pl=p) (hpo:m.po=(p||po)) (hpa:m.pa=false) (hqo:m.qo=false) (h1:znf [n] []=some p) (h2:zln [n] []=some false) (h3:zmh [n] []=some po) (h4:zkj [n] []=some false):IsS m:=by
 have hs:m.size≤100000:=by unfold Tm.size;rw [h];simp [T.size]
 have hrow:m.row=[n]:=by unfold Tm.row;rw [h];rfl
 unfold IsS;have hk:=zzn m h hs;rw [hrow] at hk ⊢;have:=xbo [n] [] hk h1 h2 h3 h4;rw [hp,hpo,hpa,hqo];exact this
theorem xhd [Dfr] {a:Tm} (hs:(Tm.block a).size≤100000) (ha:IsS a):IsS (.block a):=by
 obtain ⟨a1,a2,a3,a4⟩:=ha;have hid:zaa 0 (Tm.block a).row.length=true:=by rw [Tm.zvb];exact zam (by simp)
 have hix:(ix (Tm.block a).row 0).1=9:=rfl;have:=xbo (Tm.block a).row [a.row] (qvz (.block a) rfl hs) (p:=a.pa) (q:=false) (po:=a.qo) (qo:=false)
  (by rw [zew];simp only [hid,hix,cond_true,show ix [a.row] 0=a.row from rfl,show zaa 0 [a.row].length=true from rfl,a2,Option.bind_some];rfl)
  (by rw [zdy];simp only [hid,hix,cond_true];rfl)
  (by rw [zdd];simp only [hid,hix,cond_true,show ix [a.row] 0=a.row from rfl,show zaa 0 [a.row].length=true from rfl,a4,Option.bind_some];rfl)
  (by rw [zcq];simp only [hid,hix,cond_true];rfl)
 refine ⟨this.1,this.2.1,this.2.2.1.trans ?_,this.2.2.2⟩;have hq:= @Tm.zhe a;show _=some a.qo;cases h1:a.pa with
 |true=>rw [hq h1];rfl
 |false=>rfl
theorem xbn [Dfr] {a:Tm} {s:Int} (hs:(Tm.fin s a).size≤100000) (ha:IsS a):IsS (.fin s a):=by
 obtain ⟨a1,a2,a3,a4⟩:=ha;have hid:zaa 0 (Tm.fin s a).row.length=true:=by rw [Tm.qqd];exact zam (by simp)
 have hix:(ix (Tm.fin s a).row 0).1=14:=rfl;have:=xbo (Tm.fin s a).row [a.row] (qvz (.fin s a) rfl hs) (p:=false) (q:=false) (po:=false) (qo:=a.pl)
  (by rw [zew];simp only [hid,hix,cond_true];rfl)
  (by rw [zdy];simp only [hid,hix,cond_true];rfl)
  (by rw [zdd];simp only [hid,hix,cond_true];rfl)
  (by rw [zcq];simp only [hid,hix,cond_true,show ix [a.row] 0=a.row from rfl,show zaa 0 [a.row].length=true from rfl,a1,Option.bind_some];rfl)
 exact this
theorem qrz [Dfr] {m a b:Tm} {k:Int} (hk:k=5∨k=6∨k=7∨k=8∨k=10∨k=12∨k=13) (h:m.t= .n2 (nd k) a.t b.t) (hs:m.size≤100000) (ha:IsS a) (hb:IsS b):IsS m:=by
 obtain ⟨a1,a2,a3,a4⟩:=ha;obtain ⟨b1,b2,b3,b4⟩:=hb;have hrow:m.row=nd k::(a.row++b.row):=by unfold Tm.row;rw [h];rfl
 have hid:zaa 0 m.row.length=true:=by rw [hrow];exact zam (by simp)
 have hix:(ix m.row 0).1=k:=by rw [hrow];rfl
 have i0:ix [a.row,b.row] 0=a.row:=rfl;have i1:ix [a.row,b.row] 1=b.row:=rfl;have j0:zaa 0 [a.row,b.row].length=true:=rfl;have j1:zaa 1 [a.row,b.row].length=true:=rfl;have g1:znf m.row [a.row,b.row]=some (decide (k=5∨k=6∨k=7∨k=8)&&(a.pl&&b.pl)):=by rw [zew];simp only [hid,hix,i0,i1,j0,j1,cond_true,a1,b1,Option.bind_some];rcases hk with rfl|rfl|rfl|rfl|rfl|rfl|rfl<;>first|(cases a.pl<;>cases b.pl<;>rfl)|rfl
 have g2:zln m.row [a.row,b.row]=some (if k=10 then a.pl&&b.pl else decide (k=5∨k=6∨k=7)&&(a.pa&&b.pa)):=by rw [zdy];simp only [hid,hix,i0,i1,j0,j1,cond_true,a1,b1,a2,b2,Option.bind_some];rcases hk with rfl|rfl|rfl|rfl|rfl|rfl|rfl<;>first|(cases a.pa<;>cases b.pa<;>rfl)|(cases a.pl<;>cases b.pl<;>rfl)|rfl
 have g3:zmh m.row [a.row,b.row]=some (if k=7 then a.po&&b.po else decide (k=5∨k=8)&&(a.po&&b.pl)):=by rw [zdd];simp only [hid,hix,i0,i1,j0,j1,cond_true,a3,b1,b3,Option.bind_some];rcases hk with rfl|rfl|rfl|rfl|rfl|rfl|rfl<;>first|(cases a.po<;>cases b.pl<;>rfl)|(cases a.po<;>cases b.po<;>rfl)|rfl
 have g4:zkj m.row [a.row,b.row]=some (if k=12 then a.po&&b.pl else if k=5 then a.qo&&b.pa else if k=7 then a.qo&&b.qo else decide (k=13)&&(a.qo&&b.pl)):=by rw [zcq];simp only [hid,hix,i0,i1,j0,j1,cond_true,a3,b1,a4,b2,b4,Option.bind_some];rcases hk with rfl|rfl|rfl|rfl|rfl|rfl|rfl<;>first|(cases a.po<;>cases b.pl<;>rfl)|(cases a.qo<;>cases b.pl<;>rfl)|(cases a.qo<;>cases b.qo<;>rfl)|(cases a.qo<;>cases b.pa<;>rfl)|rfl
 have:=xbo m.row [a.row,b.row] (zra m h hs) g1 g2 g3 g4;have hm:m=(if k=5 then .seq a b else if k=6 then .alt a b else if k=7 then .par a b else if k=8 then .hand a b else if k=10 then .pair a b else if k=12 then .going a b else .stack a b):=by apply Tm.zyn;rw [h];rcases hk with rfl|rfl|rfl|rfl|rfl|rfl|rfl<;>rfl
 have pa1:= @Tm.zbv a;have pa2:= @Tm.zhe a;have pb1:= @Tm.zbv b;have pb2:= @Tm.zhe b;unfold IsS;rw [this.1,this.2.1,this.2.2.1,this.2.2.2,hm];rcases hk with rfl|rfl|rfl|rfl|rfl|rfl|rfl
 ·refine ⟨rfl,rfl,?_,?_⟩
  ·show some ((a.pl&&b.pl)||(a.po&&b.pl))=some (a.po&&b.pl);cases h1:a.pl<;>cases h2:b.pl<;>simp_all
  ·show some ((a.pa&&b.pa)||(a.qo&&b.pa))=some (a.qo&&b.pa);cases h1:a.pa<;>cases h2:b.pa<;>simp_all
 ·refine ⟨rfl,rfl,?_,?_⟩
  ·show some ((a.pl&&b.pl)||false)=some (a.pl&&b.pl);rw [Bool.or_false]
  ·show some ((a.pa&&b.pa)||false)=some (a.pa&&b.pa);rw [Bool.or_false]
 ·refine ⟨rfl,rfl,?_,?_⟩
  ·show some ((a.pl&&b.pl)||(a.po&&b.po))=some (a.po&&b.po);cases h1:a.pl<;>cases h2:b.pl<;>simp_all
  ·show some ((a.pa&&b.pa)||(a.qo&&b.qo))=some (a.qo&&b.qo);cases h1:a.pa<;>cases h2:b.pa<;>simp_all
 ·refine ⟨rfl,rfl,?_,rfl⟩;show some ((a.pl&&b.pl)||(a.po&&b.pl))=some (a.po&&b.pl);cases h1:a.pl<;>cases h2:b.pl<;>simp_all
 ·refine ⟨rfl,rfl,rfl,?_⟩;show some ((a.pl&&b.pl)||false)=some (a.pl&&b.pl);rw [Bool.or_false]
 ·exact ⟨rfl,rfl,rfl,rfl⟩
 ·exact ⟨rfl,rfl,rfl,rfl⟩
theorem is_s [Dfr] (m:Tm) (hs:m.size≤100000):IsS m:=by
 induction m with
 |act s=>exact qry (m:=.act s) rfl (p:=true) (po:=false) rfl rfl rfl rfl (by rw [zew];rfl) (by rw [zdy];rfl) (by rw [zdd];rfl) (by rw [zcq];rfl)
 |skip=>exact qry (m:=.skip) rfl (p:=true) (po:=false) rfl rfl rfl rfl (by rw [zew];rfl) (by rw [zdy];rfl) (by rw [zdd];rfl) (by rw [zcq];rfl)
 |throw=>exact qry (m:=.throw) rfl (p:=true) (po:=false) rfl rfl rfl rfl (by rw [zew];rfl) (by rw [zdy];rfl) (by rw [zdd];rfl) (by rw [zcq];rfl)
 |yield=>exact qry (m:=.yield) rfl (p:=true) (po:=false) rfl rfl rfl rfl (by rw [zew];rfl) (by rw [zdy];rfl) (by rw [zdd];rfl) (by rw [zcq];rfl)
 |over s=>exact qry (m:=.over s) rfl (p:=false) (po:=true) rfl rfl rfl rfl (by rw [zew];rfl) (by rw [zdy];rfl) (by rw [zdd];rfl) (by rw [zcq];rfl)
 |block a ih=>exact xhd hs (ih (by rw [Tm.zan] at hs;omega))
 |fin s a ih=>exact xbn hs (ih (by rw [Tm.zbu] at hs;omega))
 |seq a b iha ihb=>exact qrz (m:=.seq a b) (k:=5) (by simp) rfl hs (iha (by rw [Tm.zau] at hs;omega)) (ihb (by rw [Tm.zau] at hs;omega))
 |alt a b iha ihb=>exact qrz (m:=.alt a b) (k:=6) (by simp) rfl hs (iha (by rw [Tm.zsf] at hs;omega)) (ihb (by rw [Tm.zsf] at hs;omega))
 |par a b iha ihb=>exact qrz (m:=.par a b) (k:=7) (by simp) rfl hs (iha (by rw [Tm.zbj] at hs;omega)) (ihb (by rw [Tm.zbj] at hs;omega))
 |hand a b iha ihb=>exact qrz (m:=.hand a b) (k:=8) (by simp) rfl hs (iha (by rw [Tm.zay] at hs;omega)) (ihb (by rw [Tm.zay] at hs;omega))
 |pair a b iha ihb=>exact qrz (m:=.pair a b) (k:=10) (by simp) rfl hs (iha (by rw [Tm.zuy] at hs;omega)) (ihb (by rw [Tm.zuy] at hs;omega))
 |going a b iha ihb=>exact qrz (m:=.going a b) (k:=12) (by simp) rfl hs (iha (by rw [Tm.zbo] at hs;omega)) (ihb (by rw [Tm.zbo] at hs;omega))
 |stack a b iha ihb=>exact qrz (m:=.stack a b) (k:=13) (by simp) rfl hs (iha (by rw [Tm.zca] at hs;omega)) (ihb (by rw [Tm.zca] at hs;omega))
theorem qwc [Dfr] (l:List Nd) (hl:l.length≤4611686018427387904) (hn:∀n∈l,n.2.1.size≤9223372036854775807):zxh l=some (sOf l):=by
 rw [yip,yag l hl hn,qvo];unfold sOf;simp only [Option.bind_some];cases h:tmOf l with
 |none=>rfl
 |some m=>
  obtain ⟨rfl,h2,h3⟩:=zih.1 h;obtain ⟨k1,k2,k3,k4⟩:=is_s m (by omega);simp only [Option.isSome_some,Bool.not_true,cond_false];rw [zkk];simp only [show decide ((1:Int)≤4)=true from rfl,cond_true,k1,Option.bind_some];rcases Tm.cls m with ⟨e,e1,e2,e3,e4⟩|⟨e,e1,e2,e3,e4⟩|⟨e,e1,e2,e3,e4⟩|⟨e,e1,e2,e3,e4⟩|⟨e,e1,e2,e3,e4⟩
  ·rw [e1,e];rfl
  all_goals
   rw [e1,cond_false,show w64 (1+1)=2 from rfl,zkk];simp only [show decide ((2:Int)≤4)=true from rfl,cond_true,k2,Option.bind_some]
  ·rw [e2,e];rfl
  all_goals
   rw [e2,cond_false,show w64 (2+1)=3 from rfl,zkk];simp only [show decide ((3:Int)≤4)=true from rfl,cond_true,k3,Option.bind_some]
  ·rw [e3,e];rfl
  all_goals
   rw [e3,cond_false,show w64 (3+1)=4 from rfl,zkk];simp only [show decide ((4:Int)≤4)=true from rfl,cond_true,k4,Option.bind_some]
  ·rw [e4,e];rfl
  ·rw [e4,cond_false,show w64 (4+1)=5 from rfl,zkk,e];rfl
theorem yok [Dfr] (l:List Nd) (b:Bool) (hl:l.length≤4611686018427387904) (hn:∀n∈l,n.2.1.size≤9223372036854775807):yae l b=some (decide (on (sOf l)=if b then 4 else 3)):=by
 have h:=ysf l;have hc:sOf l=0∨sOf l=1∨sOf l=2∨sOf l=3∨sOf l=4:=by omega
 rw [yio,qwc l hl hn];rcases hc with h|h|h|h|h<;>rw [h]<;>cases b<;>rfl
def qcu (l:List Qc):Prop:=∀x∈l,x.1.1.length≤4611686018427387904∧x.2.1.length≤4611686018427387904
theorem zlw [Dfr] {m:Tm} (h:m.small):m.size≤100000:=by have:=h.1;omega
theorem zbm [Dfr] {m:Tm} (h:m.small):∀x∈m.tr,x.1.length≤6:=fun x hx=>Nat.le_trans (Tm.yur hx) h.2
theorem zfk [Dfr] {m:Tm} (h:m.small):∀x∈m.pq,x.1.1.length+x.2.1.length≤6:=fun x hx=>Nat.le_trans (Tm.yut hx) h.2
theorem qky [Dfr] {m:Tm} (h:m.small):m.big≤400000000:=Tm.ywn h.1 h.2
theorem zii [Dfr] {m:Tm} (h:m.small):m.tr.length≤400000000∧m.pq.length≤400000000:=⟨Nat.le_trans (Tm.zbe m).1 (qky h),Nat.le_trans (Tm.zbe m).2 (qky h)⟩
def fewT (l:List Tc):Prop:=∀x∈l,x.1.length≤12
theorem fewT.short [Dfr] {l:List Tc} (h:fewT l):zgq l:=fun x hx=>by have:=h x hx;omega
def fewQ (l:List Qc):Prop:=∀x∈l,x.1.1.length≤12∧x.2.1.length≤12
theorem fewQ.short [Dfr] {l:List Qc} (h:fewQ l):qcu l:=fun x hx=>by have:=h x hx;omega
theorem qnt [Dfr] (p q:Tc):(zek p q).1.length≤p.1.length+q.1.length:=by
 unfold zek;split
 ·rw [List.length_append];exact Nat.le_refl _
 ·omega
theorem sm2 [Dfr] {a b m:Tm} (h:m.small) (hs:m.size=a.size+b.size+1) (hn:m.nm=a.nm++b.nm):a.small∧b.small:=by obtain ⟨h1,h2⟩:=h;rw [hn,List.length_append] at h2;exact ⟨⟨by omega,by omega⟩,⟨by omega,by omega⟩⟩
theorem sm1 [Dfr] {a m:Tm} (h:m.small) (hs:m.size=a.size+1) (hn:m.nm=a.nm):a.small:=by obtain ⟨h1,h2⟩:=h;rw [hn] at h2;exact ⟨by omega,h2⟩
theorem zps [Dfr] (s:Int):znb s=some (Tm.over s).row:=by rw [qtz];rfl
theorem zsh [Dfr] (s:Int) (c:Tm) (h:c.size≤50000):zll s c.row=some (Tm.fin s c).row:=by rw [qyu,ydr _ _ (by rw [Tm.zac];omega)];rfl
theorem yjj [Dfr] (k:Int) (a b:Tm) (ha:a.size≤50000) (hb:b.size≤50000):zbr (nd k) [a.row,b.row]=some (nd k::(a.row++b.row)):=
 ysm _ _ _ (by rw [Tm.zac];omega) (by rw [Tm.zac];omega)
theorem qfe [Dfr] (m:Tm):zaa 0 m.row.length=true:=zam (by rw [Tm.zac];exact m.zda)
theorem qfd [Dfr] (m:Tm):ix m.row 0=m.t.hd:=by obtain ⟨r,hr⟩:=T.yzk m.t;unfold Tm.row;rw [hr];rfl
theorem zua [Dfr] (s:Int) (c:Tm):cut (Tm.fin s c).row 1 ((Tm.fin s c).row.length:Int)=c.row:=by rw [show (1:Int)=((1:Nat):Int) from rfl,qbd];rfl
theorem zkp [Dfr] (m:Tm):zaw 1 (m.row.length:Int) m.row.length=true:=by have:=m.zda;rw [←Tm.zac] at this;exact zep (a:=1) (by omega) (Nat.le_refl _)
theorem qcv [Dfr] (x c:Tm) (hx:x.size≤20000) (hc:c.size≤20000):zsg x.row c.row=some (Tm.zjt x c).row:=by
 rw [qpr];simp only [qfe,qfd,cond_true,zkp];have h13:zbr (13,ByteArray.empty,0) [x.row,c.row]=some (Tm.stack x c).row:=yjj 13 x c (by omega) (by omega);cases x<;>first|(simp only [h13];rfl)|skip
 rename_i s d;rw [Tm.zbu] at hx;have h5:zbr (5,ByteArray.empty,0) [d.row,c.row]=some (Tm.seq d c).row:=yjj 5 d c (by omega) (by omega);rw [zua,h5];simp only [Option.bind_some];rw [zsh _ _ (by rw [Tm.zau];omega)];rfl
theorem ydg [Dfr] (x y:Tm) (hx:x.size≤20000) (hy:y.size≤20000):qjj (nd 7) x.row y.row=some (Tm.par' x y).row:=by
 rw [qyt];simp only [qfe,qfd,cond_true,zkp,yhu,Option.bind_some];have h7:zbr (nd 7) [x.row,y.row]=some (Tm.par x y).row:=yjj 7 x y (by omega) (by omega);cases x with
 |over s=>
  cases y with
  |over z=>rw [zps];rfl
  |_=>simp only [h7];rfl
 |fin s c=>
  cases y with
  |fin z d=>rw [Tm.zbu] at hx hy;have h5:zbr (nd 7) [c.row,d.row]=some (Tm.par c d).row:=yjj 7 c d (by omega) (by omega);rw [zua,zua,h5];simp only [Option.bind_some];rw [zsh _ _ (by rw [Tm.zbj];omega)];rfl
  |_=>simp only [h7];rfl
 |_=>simp only [h7];cases y<;>rfl
theorem znp [Dfr] (l:List Nd):zdx l=some (match l with|[n]=>if n.1=11 then (n.2.2,true) else (0,false)|_=>(0,false)):=by
 rw [qpt]
 match l with
 |[]=>rfl
 |[n]=>
  simp only [show ((([n]:List Nd).length:Int) != 1)=false from rfl,cond_false,show zaa 0 ([n]:List Nd).length=true from rfl,cond_true,show ix [n] 0=n from rfl];by_cases h:n.1=11
  ·simp [h]
  ·have:(n.1 != 11)=true:=by simpa using h
   simp [this,h]
 |a::b::r=>
  have:(((a::b::r).length:Int) != 1)=true:=by simp only [List.length_cons,bne_iff_ne,ne_eq];omega
  rw [this];rfl
def ended (m:Tm):Int×Bool:=match m with| .over s=>(s,true)|_=>(0,false)
theorem zfq [Dfr] (m:Tm):zdx m.row=some (ended m):=by
 rw [znp];have two:∀(n:Nd) (a:Tm),(match n::a.row with|[n]=>if n.1=11 then (n.2.2,true) else (0,false)|_=>((0:Int),false))=(0,false):=fun n a=>by
  have:=a.qvx;cases h:a.row with
  |nil=>exact absurd h this
  |cons _ _=>rfl
 have three:∀(n:Nd) (a b:Tm),(match n::(a.row++b.row) with|[n]=>if n.1=11 then (n.2.2,true) else (0,false)|_=>((0:Int),false))=(0,false):=fun n a b=>by
  have:=a.qvx;cases h:a.row with
  |nil=>exact absurd h this
  |cons _ _=>rfl
 cases m<;>first|rfl|exact congrArg some (two _ _)|exact congrArg some (three _ _ _)
theorem yyz [Dfr]:∀(n:Nat) (m:Tm),m.size≤n→n≤10000→zbq m.row=some m.st.row:=by
 intro n
 induction n with
 |zero=>intro m h;have:=m.zda;omega
 |succ n ih=>
  intro m h hn;rw [qmp];simp only [qfe,qfd,cond_true];cases m with
  |act s=>rw [ypd (.act s) rfl (by omega)];rw [Tm.zyx];rfl
  |yield=>rw [ypd .yield rfl (by omega)];rw [Tm.zkq];rfl
  |over s=>rw [ypd (.over s) rfl (by omega)];rw [Tm.zgf];rfl
  |skip=>rw [ypd .skip rfl (by omega),Tm.zti];simp only [zps];rfl
  |throw=>rw [ypd .throw rfl (by omega),Tm.zpp];simp only [zps];rfl
  |alt a b=>rw [yfu (.alt a b) rfl (by omega),Tm.qgi];rfl
  |pair a b=>rw [yfu (.pair a b) rfl (by omega),Tm.zwj];rfl
  |fin s a=>rw [xbk (.fin s a) rfl (by omega),Tm.zpj];rfl
  |hand a b=>
   rw [Tm.zay] at h;have ha:=ih a (by omega) (by omega);have hb:=ih b (by omega) (by omega);have hsa:=a.zbz;rw [yfu (.hand a b) rfl (by rw [Tm.zay];omega),Tm.ztj];simp only [Option.bind_some,show ix [a.row,b.row] 0=a.row from rfl,show ix [a.row,b.row] 1=b.row from rfl,show zaa 0 [a.row,b.row].length=true from rfl,show zaa 1 [a.row,b.row].length=true from rfl,ha,show (Tm.hand a b).t.hd=nd 8 from rfl,cond_true,cond_false,show (((nd 8).1:Int)==2)=false from rfl,show (((nd 8).1:Int)==3)=false from rfl,show (((nd 8).1:Int)==8)=true from rfl];rw [zoy];simp only [qfe,qfd,cond_true];generalize a.st=x at hsa;have h8:zbr (nd 8) [x.row,b.row]=some (Tm.hand x b).row:=yjj 8 x b (by omega) (by omega);cases x<;>first|(simp only [h8];rfl)|skip
   rename_i s;simp only [Tm.hand',Tm.t,T.hd];by_cases hz:s=2
   ·subst hz;simp only [hb,if_true,emp];rfl
   ·simp only [if_neg hz,int_eq,hz,decide_false,Bool.and_false,cond_false];rfl
  |seq a b=>
   rw [Tm.zau] at h;have ha:=ih a (by omega) (by omega);have hb:=ih b (by omega) (by omega);have hsa:=a.zbz;have hsb:=b.zbz;rw [yfu (.seq a b) rfl (by rw [Tm.zau];omega),Tm.zyb];simp only [Option.bind_some,show ix [a.row,b.row] 0=a.row from rfl,show ix [a.row,b.row] 1=b.row from rfl,show zaa 0 [a.row,b.row].length=true from rfl,show zaa 1 [a.row,b.row].length=true from rfl,ha,hb,show (Tm.seq a b).t.hd=nd 5 from rfl,cond_true,cond_false,show (((nd 5).1:Int)==2)=false from rfl,show (((nd 5).1:Int)==3)=false from rfl,show (((nd 5).1:Int)==8)=false from rfl,show (((nd 5).1:Int)==5)=true from rfl,qfe,qfd];generalize a.st=x at hsa;have h5:zbr (nd 5) [x.row,b.row]=some (Tm.seq x b).row:=yjj 5 x b (by omega) (by omega);cases x with
   |fin s c=>
    simp only [Tm.seq',Tm.t,T.hd,show ((14:Int) != 14)=false from rfl,cond_false];by_cases hz:s=1
    ·subst hz;rw [Tm.zbu] at hsa;have hss:=qcv b.st c (by omega) (by omega);simp only [show ((1:Int) != 1)=false from rfl,cond_false,if_true,zkp,cond_true,zua,hss,Option.bind_some]
    ·have:(s != 1)=true:=by simpa using hz
     simp only [this,cond_true,if_neg hz]
   |over s=>
    rw [zoy];simp only [qfe,qfd,cond_true,Tm.seq',Tm.t,T.hd];by_cases hz:s=1
    ·subst hz;simp only [hb,if_true,emp];rfl
    ·simp only [if_neg hz,int_eq,hz,decide_false,Bool.and_false,cond_false];rfl
   |_=>rw [zoy];simp only [qfe,qfd,cond_true,h5];rfl
  |stack a c=>rw [Tm.zca] at h;have ha:=ih a (by omega) (by omega);have hsa:=a.zbz;have hss:=qcv a.st c (by omega) (by omega);rw [yfu (.stack a c) rfl (by rw [Tm.zca];omega),Tm.zkr];simp only [Option.bind_some,show ix [a.row,c.row] 0=a.row from rfl,show ix [a.row,c.row] 1=c.row from rfl,show zaa 0 [a.row,c.row].length=true from rfl,show zaa 1 [a.row,c.row].length=true from rfl,ha,hss];rfl
  |going a b=>
   rw [Tm.zbo] at h;have ha:=ih a (by omega) (by omega);have hsa:=a.zbz;rw [yfu (.going a b) rfl (by rw [Tm.zbo];omega),Tm.zlt];simp only [Option.bind_some,show ix [a.row,b.row] 0=a.row from rfl,show ix [a.row,b.row] 1=b.row from rfl,show zaa 0 [a.row,b.row].length=true from rfl,show zaa 1 [a.row,b.row].length=true from rfl,ha,zfq,show (Tm.going a b).t.hd=nd 12 from rfl,cond_true];generalize a.st=x at hsa;have h12:zbr (nd 12) [x.row,b.row]=some (Tm.going x b).row:=yjj 12 x b (by omega) (by omega);cases x<;>first|(simp only [h12,ended];rfl)|skip
   rename_i s;simp only [Tm.qav,ended];by_cases hz:s=1
   ·subst hz;simp only [zsh 1 b (by omega),if_true];rfl
   ·have e1:(s != 1)=true:=by simpa using hz
    have e2:zll s [nd 2]=some (Tm.fin s .skip).row:=zsh s .skip (by decide);have e3:ix ([a.row,b.row].set 1 [(2,ByteArray.empty,0)]) 1=[nd 2]:=rfl;have e4:zaa 1 ([a.row,b.row].set 1 [(2,ByteArray.empty,0)]).length=true:=rfl;simp only [e1,e3,e4,e2,if_neg hz,cond_true];rfl
  |par a b=>rw [Tm.zbj] at h;have ha:=ih a (by omega) (by omega);have hb:=ih b (by omega) (by omega);have hsa:=a.zbz;have hsb:=b.zbz;have hp:=ydg a.st b.st (by omega) (by omega);rw [yfu (.par a b) rfl (by rw [Tm.zbj];omega),Tm.zob];simp only [Option.bind_some,show ix [a.row,b.row] 0=a.row from rfl,show ix [a.row,b.row] 1=b.row from rfl,show zaa 0 [a.row,b.row].length=true from rfl,show zaa 1 [a.row,b.row].length=true from rfl,ha,hb,show (Tm.par a b).t.hd=nd 7 from rfl,hp];rfl
  |block a=>
   rw [Tm.zan] at h;have ha:=ih a (by omega) (by omega);have hsa:=a.zbz;rw [xbk (.block a) rfl (by rw [Tm.zan];omega),Tm.zlu];simp only [Option.bind_some,show ix [a.row] 0=a.row from rfl,show zaa 0 [a.row].length=true from rfl,ha,show (Tm.block a).t.hd=nd 9 from rfl,cond_true];rw [qps];simp only [qfe,qfd,cond_true];generalize a.st=x at hsa;have h9:zbr (nd 9) [x.row]=some (Tm.block x).row:=ydr _ _ (by rw [Tm.zac];omega);cases x<;>first|(simp only [h9];rfl)|skip
   rename_i s c;rw [Tm.zbu] at hsa;have hc:=ih c (by omega) (by omega);simp only [Tm.block',Tm.t,T.hd];by_cases hz:s=1
   ·subst hz;simp only [zps,if_true,emp];rfl
   ·by_cases hz2:s=2
    ·subst hz2;simp only [zkp,zua,hc,emp];rfl
    ·simp only [if_neg hz,if_neg hz2,int_eq,hz,hz2,decide_false,Bool.and_false,cond_false,h9];rfl
noncomputable def zbl (l:List Nd):List Nd:=match tmOf l with|some m=>if m.po=true∨m.qo=true then m.st.row else []|none=>[]
theorem xkq [Dfr] (m:Tm):on m.so=4↔m.qo=true:=by rw [Tm.xko];simp
theorem xkr [Dfr] (m:Tm):on m.so=3↔m.po=true:=by rw [Tm.yyv];simp
theorem zzd [Dfr] (l:List Nd) (hl:l.length≤4611686018427387904):zpt l=some (zbl l):=by
 rw [qmq];simp only [ydd l _ hl,Option.bind_some];unfold zbl sOf;cases h:tmOf l with
 |none=>rfl
 |some m=>obtain ⟨rfl,h2,h3⟩:=zih.1 h;have hs:=yyz m.size m (Nat.le_refl _) (by omega);have hsz:=m.zbz;have e1:decide ((m.st.row.length:Int)>200)=false:=decide_eq_false (by rw [Tm.zac];omega);have e2:zae (0+m.st.row.length) 32=true:=room (by rw [Tm.zac];omega);simp only [hs,Option.bind_some,e1,e2,cond_true,cond_false,List.nil_append,xkq,xkr,if_true,if_false,Bool.false_eq_true];cases h1:m.po<;>cases h2:m.qo<;>simp
theorem zks [Dfr] (l:List Nd) (hl:l.length≤4611686018427387904):zkf l=some (decide (l≠[]∧zbl l=l)):=by
 rw [qjk];cases l with
 |nil=>rfl
 |cons x r=>
  have e1:decide (((x::r).length:Int)>0)=true:=decide_eq_true (by simp only [List.length_cons];omega);have hlen:(zbl (x::r)).length≤4611686018427387904:=by
   unfold zbl;split
   ·rename_i m hm;split
    ·have:=m.zbz;have:=(zih.1 hm).2.2;rw [Tm.zac];omega
    ·simp
   ·simp
  simp only [e1,cond_true,zzd _ hl,Option.bind_some,yoc _ _ hlen];simp
theorem zgr [Dfr] (k s:Int):zax k s=some (k,ByteArray.empty,s):=by rw [qzx]
theorem zsk [Dfr] (s:Int):zqk s=some (Tm.over s).row:=by rw [qzw,zgr];rfl
theorem zxd [Dfr] (s:Int) (c:Tm) (h:c.size≤100000):zme s c.row=some (Tm.fin s c).row:=by rw [yed,zgr];simp only [Option.bind_some];rw [zxj _ _ (by rw [Tm.zac];omega)];rfl
theorem yhh [Dfr] (k:Int) (a b:Tm) (ha:a.size≤100000) (hb:b.size≤100000):zbd (nd k) a.row b.row=some (nd k::(a.row++b.row)):=
 qqv _ _ _ (by rw [Tm.zac];omega) (by rw [Tm.zac];omega)
theorem yik [Dfr] (x y:Tm) (hx:x.size≤20000) (hy:y.size≤20000):qqn x.row y.row=some (Tm.par' x y).row:=by
 rw [yec];simp only [qfe,qfd,cond_true,zkp,qlu,Option.bind_some,zgr];have h7:zbd (7,ByteArray.empty,0) x.row y.row=some (Tm.par x y).row:=yhh 7 x y (by omega) (by omega);cases x with
 |over s=>
  cases y with
  |over z=>rw [zsk];rfl
  |_=>simp only [h7];rfl
 |fin s c=>
  cases y with
  |fin z d=>rw [Tm.zbu] at hx hy;have h5:zbd (7,ByteArray.empty,0) c.row d.row=some (Tm.par c d).row:=yhh 7 c d (by omega) (by omega);rw [zua,zua,h5];simp only [Option.bind_some];rw [zxd _ _ (by rw [Tm.zbj];omega)];rfl
  |_=>simp only [h7];rfl
 |_=>simp only [h7];cases y<;>rfl
theorem qhb [Dfr] (x c:Tm) (hx:x.size≤20000) (hc:c.size≤20000) (hq:x.qo=true):zfs 13 x.row c.row=some (Tm.zjt x c).row:=by
 rw [znr];simp only [qfe,qfd,cond_true,zkp,zgr,Option.bind_some];have h13:zbd (13,ByteArray.empty,0) x.row c.row=some (Tm.stack x c).row:=yhh 13 x c (by omega) (by omega);cases x<;>first|(cases hq;done)|(simp only [h13];rfl)|skip
 rename_i s d;rw [Tm.zbu] at hx;have h5:zbd (5,ByteArray.empty,0) d.row c.row=some (Tm.seq d c).row:=yhh 5 d c (by omega) (by omega);have he:=zxd s (Tm.seq d c) (by rw [Tm.zau];omega);rw [zua,h5];simp only [Option.bind_some,Tm.t,T.hd,he];rfl
theorem xig [Dfr]:∀(n:Nat) (m:Tm),m.size≤n→n≤10000→(m.po=true∨m.qo=true)→zbi m.row=some m.st.row:=by
 intro n
 induction n with
 |zero=>intro m h;have:=m.zda;omega
 |succ n ih=>
  intro m h hn hon;rw [qzy];simp only [qfe,qfd,cond_true];cases m with
  |act s=>rw [zzn (.act s) rfl (by omega)];rw [Tm.zyx];rfl
  |yield=>rw [zzn .yield rfl (by omega)];rw [Tm.zkq];rfl
  |over s=>rw [zzn (.over s) rfl (by omega)];rw [Tm.zgf];rfl
  |skip=>rw [zzn .skip rfl (by omega),Tm.zti];simp only [zsk];rfl
  |throw=>rw [zzn .throw rfl (by omega),Tm.zpp];simp only [zsk];rfl
  |alt a b=>rw [zra (.alt a b) rfl (by omega),Tm.qgi];rfl
  |pair a b=>rw [zra (.pair a b) rfl (by omega),Tm.zwj];rfl
  |fin s a=>rw [qvz (.fin s a) rfl (by omega),Tm.zpj];rfl
  |hand a b=>
   rw [Tm.zay] at h;have hs:a.po=true∧b.pl=true:=by
    rcases hon with h1|h1
    ·simpa only [Tm.po,Bool.and_eq_true] using h1
    ·cases h1
   have ha:=ih a (by omega) (by omega) (.inl hs.1);have hb:=ih b (by omega) (by omega) (.inl (Tm.zbv hs.2));have hsa:=a.zbz;have hpo:=Tm.qyl hs.1;rw [zra (.hand a b) rfl (by rw [Tm.zay];omega),Tm.ztj];simp only [Option.bind_some,show ix [a.row,b.row] 0=a.row from rfl,show ix [a.row,b.row] 1=b.row from rfl,show zaa 0 [a.row,b.row].length=true from rfl,show zaa 1 [a.row,b.row].length=true from rfl,ha,show (Tm.hand a b).t.hd=nd 8 from rfl,cond_true,cond_false,show (((nd 8).1:Int)==2)=false from rfl,show (((nd 8).1:Int)==3)=false from rfl,show (((nd 8).1:Int)==5)=false from rfl,show (((nd 8).1:Int)==8)=true from rfl,show ((nd 8).1:Int)=8 from rfl];rw [znr];simp only [qfe,qfd,cond_true,zkp,zgr,Option.bind_some];generalize a.st=x at hsa hpo;have h8:zbd (8,ByteArray.empty,0) x.row b.row=some (Tm.hand x b).row:=yhh 8 x b (by omega) (by omega)
   cases x<;>first|(cases hpo;done)|(simp only [h8];rfl)|skip
   rename_i s;simp only [Tm.hand',Tm.t,T.hd];by_cases hz:s=2
   ·subst hz;simp only [hb,if_true,emp];rfl
   ·simp only [if_neg hz,int_eq,hz,decide_false,cond_false];rfl
  |seq a b=>
   rw [Tm.zau] at h;have hsa:=a.zbz;have hsb:=b.zbz;have hs:(a.po=true∧b.pl=true)∨(a.qo=true∧b.pa=true):=by
    rcases hon with h1|h1
    ·left;simpa only [Tm.po,Bool.and_eq_true] using h1
    ·right;simpa only [Tm.qo,Bool.and_eq_true] using h1
   have ha:=ih a (by omega) (by omega) (hs.imp (·.1) (·.1))
   have hb:=ih b (by omega) (by omega) (hs.imp (fun h=>Tm.zbv h.2) (fun h=>Tm.zhe h.2));have hpo:(a.st.po=true∧b.pl=true)∨(a.st.qo=true∧b.st.qo=true):=hs.imp (fun h=>⟨Tm.qyl h.1,h.2⟩) (fun h=>⟨Tm.qyk h.1,Tm.qyk (Tm.zhe h.2)⟩);rw [zra (.seq a b) rfl (by rw [Tm.zau];omega),Tm.zyb];simp only [Option.bind_some,show ix [a.row,b.row] 0=a.row from rfl,show ix [a.row,b.row] 1=b.row from rfl,show zaa 0 [a.row,b.row].length=true from rfl,show zaa 1 [a.row,b.row].length=true from rfl,ha,show (Tm.seq a b).t.hd=nd 5 from rfl,cond_true,cond_false,show (((nd 5).1:Int)==2)=false from rfl,show (((nd 5).1:Int)==3)=false from rfl,show (((nd 5).1:Int)==5)=true from rfl,show ((nd 5).1:Int)=5 from rfl];rw [znr];simp only [qfe,qfd,cond_true,zkp,zgr,Option.bind_some,hb];generalize a.st=x at hsa hpo;have h5:zbd (5,ByteArray.empty,0) x.row b.row=some (Tm.seq x b).row:=yhh 5 x b (by omega) (by omega)
   cases x<;>first|(simp only [h5];rfl)|skip
   ·rename_i s;simp only [Tm.seq',Tm.t,T.hd];by_cases hz:s=1
    ·subst hz;simp only [if_true];rfl
    ·simp only [if_neg hz,int_eq,hz,decide_false,cond_false];rfl
   ·rename_i s c;rw [Tm.zbu] at hsa;have hq:b.st.qo=true:=by
     rcases hpo with h1|h1
     ·cases h1.1
     ·exact h1.2
    have hf:=qhb b.st c (by omega) (by omega) hq;simp only [Tm.seq',Tm.t,T.hd];by_cases hz:s=1
    ·subst hz;rw [zua,hf];simp only [if_true];rfl
    ·simp only [if_neg hz,int_eq,hz,decide_false,cond_false];rfl
  |stack a c=>
   rw [Tm.zca] at h;have hs:a.qo=true∧c.pl=true:=by
    rcases hon with h1|h1
    ·cases h1
    ·simpa only [Tm.qo,Bool.and_eq_true] using h1
   have ha:=ih a (by omega) (by omega) (.inr hs.1);have hsa:=a.zbz;have hf:=qhb a.st c (by omega) (by omega) (Tm.qyk hs.1);rw [zra (.stack a c) rfl (by rw [Tm.zca];omega),Tm.zkr];simp only [Option.bind_some,show ix [a.row,c.row] 0=a.row from rfl,show ix [a.row,c.row] 1=c.row from rfl,show zaa 0 [a.row,c.row].length=true from rfl,show zaa 1 [a.row,c.row].length=true from rfl,ha,show (Tm.stack a c).t.hd=nd 13 from rfl,show ((nd 13).1:Int)=13 from rfl,hf];rfl
  |going a b=>
   rw [Tm.zbo] at h;have hs:a.po=true∧b.pl=true:=by
    rcases hon with h1|h1
    ·cases h1
    ·simpa only [Tm.qo,Bool.and_eq_true] using h1
   have ha:=ih a (by omega) (by omega) (.inl hs.1);have hsa:=a.zbz;have hpo:=Tm.qyl hs.1;rw [zra (.going a b) rfl (by rw [Tm.zbo];omega),Tm.zlt];simp only [Option.bind_some,show ix [a.row,b.row] 0=a.row from rfl,show ix [a.row,b.row] 1=b.row from rfl,show zaa 0 [a.row,b.row].length=true from rfl,show zaa 1 [a.row,b.row].length=true from rfl,ha,show (Tm.going a b).t.hd=nd 12 from rfl,cond_true,cond_false,show (((nd 12).1:Int)==2)=false from rfl,show (((nd 12).1:Int)==3)=false from rfl,show (((nd 12).1:Int)==5)=false from rfl,show (((nd 12).1:Int)==8)=false from rfl,show (((nd 12).1:Int)==12)=true from rfl,show ((nd 12).1:Int)=12 from rfl];rw [znr];simp only [qfe,qfd,cond_true,zkp,zgr,Option.bind_some];generalize a.st=x at hsa hpo;have h12:zbd (12,ByteArray.empty,0) x.row b.row=some (Tm.going x b).row:=yhh 12 x b (by omega) (by omega)
   cases x<;>first|(cases hpo;done)|(simp only [h12];rfl)|skip
   rename_i s;simp only [Tm.qav,Tm.t,T.hd];have e1:=zxd 1 b (by omega);have e2:zme s [(2,ByteArray.empty,0)]=some (Tm.fin s .skip).row:=zxd s .skip (by decide);by_cases hz:s=1
   ·subst hz;simp only [e1,if_true];rfl
   ·simp only [e2,if_neg hz,int_eq,hz,decide_false,cond_false];rfl
  |par a b=>
   rw [Tm.zbj] at h;have hs:(a.po=true∧b.po=true)∨(a.qo=true∧b.qo=true):=by
    rcases hon with h1|h1
    ·left;simpa only [Tm.po,Bool.and_eq_true] using h1
    ·right;simpa only [Tm.qo,Bool.and_eq_true] using h1
   have ha:=ih a (by omega) (by omega) (hs.imp (·.1) (·.1))
   have hb:=ih b (by omega) (by omega) (hs.imp (·.2) (·.2))
   have hsa:=a.zbz;have hsb:=b.zbz;have hp:=yik a.st b.st (by omega) (by omega);rw [zra (.par a b) rfl (by rw [Tm.zbj];omega),Tm.zob];simp only [Option.bind_some,show ix [a.row,b.row] 0=a.row from rfl,show ix [a.row,b.row] 1=b.row from rfl,show zaa 0 [a.row,b.row].length=true from rfl,show zaa 1 [a.row,b.row].length=true from rfl,ha,hb,show (Tm.par a b).t.hd=nd 7 from rfl,hp];rfl
  |block a=>
   rw [Tm.zan] at h;have hs:a.qo=true:=by
    rcases hon with h1|h1
    ·exact h1
    ·cases h1
   have ha:=ih a (by omega) (by omega) (.inr hs);have hsa:=a.zbz;have hq:=Tm.qyk hs;rw [qvz (.block a) rfl (by rw [Tm.zan];omega),Tm.zlu];simp only [Option.bind_some,show ix [a.row] 0=a.row from rfl,show zaa 0 [a.row].length=true from rfl,ha,show (Tm.block a).t.hd=nd 9 from rfl,cond_true];rw [que];simp only [qfe,qfd,cond_true,zgr,Option.bind_some];generalize a.st=x at hsa hq;have h9:zhp (9,ByteArray.empty,0) x.row=some (Tm.block x).row:=zxj _ _ (by rw [Tm.zac];omega);cases x<;>first|(cases hq;done)|(simp only [h9];rfl)|skip
   rename_i s c;rw [Tm.zbu] at hsa;have hc:=ih c (by omega) (by omega) (.inl (Tm.zbv hq));simp only [Tm.block',Tm.t,T.hd];by_cases hz:s=1
   ·subst hz;simp only [zsk,if_true];rfl
   ·by_cases hz2:s=2
    ·subst hz2;simp only [zkp,zua,hc,emp];rfl
    ·simp only [if_neg hz,if_neg hz2,int_eq,hz,hz2,decide_false,cond_false,h9];rfl
theorem yrs [Dfr] (m:Tm):m.so=0↔¬(m.po=true∨m.qo=true):=by rcases Tm.cls m with ⟨e,e1,e2,e3,e4⟩|⟨e,e1,e2,e3,e4⟩|⟨e,e1,e2,e3,e4⟩|⟨e,e1,e2,e3,e4⟩|⟨e,e1,e2,e3,e4⟩<;>simp [e,e3,e4]
theorem qdd [Dfr] (l:List Nd) (hl:l.length≤4611686018427387904) (hn:∀n∈l,n.2.1.size≤9223372036854775807):zoj l=some (zbl l):=by
 rw [qqp];simp only [qwc l hl hn,Option.bind_some];unfold zbl sOf;cases h:tmOf l with
 |none=>rfl
 |some m=>
  obtain ⟨rfl,h2,h3⟩:=zih.1 h;have hsz:=m.zbz;have e1:decide ((m.st.row.length:Int)>200)=false:=decide_eq_false (by rw [Tm.zac];omega);simp only [int_eq];by_cases hz:m.so=0
  ·rw [decide_eq_true hz,if_neg ((yrs m).1 hz)];rfl
  ·have hon:m.po=true∨m.qo=true:=Decidable.byContradiction fun h=>hz ((yrs m).2 h)
   rw [decide_eq_false hz,if_pos hon];simp only [cond_false,xig m.size m (Nat.le_refl _) (by omega) hon,Option.bind_some,e1]
class zcd [Dfr]:Prop where
 eq:∀l k,Dfr.d_plot_Over l k=zvr l k
theorem qqy [Dfr] [zcd] {l:List Nd} {t:T} (ht:tree l=some t) (hl:l.length≤1000000) {k:Nat} (hk:k<l.length):qhs l (k:Int)=some ((t.ovr k).map fun (i:Nat)=>(i:Int)):=by rw [yfa];show Dfr.d_plot_Over l _=_;rw [zcd.eq];unfold zvr;rw [ht];simp only;rw [if_pos ⟨hl,by omega,by omega⟩,Int.toNat_natCast]
theorem ykd [Dfr] (n:Nd):qsj n=some (goK n.1:Int):=by
 rw [ygj];by_cases h1:n.1=5; · rw [h1];rfl
 by_cases h2:n.1=8; · rw [h2];rfl
 by_cases h3:n.1=12; · rw [h3];rfl
 by_cases h4:n.1=13; · rw [h4];rfl
 by_cases h5:n.1=9; · rw [h5];rfl
 by_cases h6:n.1=7; · rw [h6];rfl
 have e:goK n.1=0:=by unfold goK;rw [if_neg (by omega),if_neg h6]
 rw [e];have f:∀c:Int,¬n.1=c→(n.1==c)=false:=fun c h=>by rw [beq_eq_false_iff_ne];exact h
 simp only [f 5 h1,f 8 h2,f 12 h3,f 13 h4,f 9 h5,f 7 h6,cond_false];rfl
theorem qwy [Dfr] (l:List Nd) (hl:l.length≤1000000) (k:Nat) (x:Nat×Nat×T) (hx:yhb l k x):qny l (x.1:Int) (k:Int)=some (x.2.1:Int):=by
 obtain ⟨hok,⟨r,hr⟩,hlt,hm⟩:=hx;obtain ⟨i,j,s⟩:=x;simp only at hok hr hlt hm ⊢;have hil:i≤l.length:=by
  rcases Nat.lt_or_ge l.length i with h|h
  ·rw [List.drop_eq_nil_of_le (by omega)] at hr;have:=congrArg List.length hr;have:=T.zux s;simp [T.zac] at*;omega
  ·exact h
 have hlen:=congrArg List.length hr;rw [List.length_drop,List.length_append,T.zac] at hlen;have hkl:k<i+s.size:=by
  cases s with
  |n0 n=>exact hm.elim
  |n1 n a=>simp only at hm;simp only [T.size];omega
  |n2 n a b=>simp only at hm;simp only [T.size];omega
 rw [ykc,zep hil (Nat.le_refl _),qbd,hr,zjl _ (by rw [List.length_append,T.zac];omega)];have hkr:zea (s.row++r)=s.kids.map T.row:=by unfold zea;rw [qfr hok]
 have ew:w64 ((k:Int)-w64 ((i:Int)+1))=(k:Int)-((i:Int)+1):=by rw [zfi (n:=(i:Int)+1) (by omega) (by omega),zfi (by omega) (by omega)]
 rw [hkr,ew];simp only [cond_true,Option.bind_some];cases s with
 |n0 n=>exact hm.elim
 |n1 n a=>simp only at hm;obtain ⟨rfl,h2⟩:=hm;have hs:(([a].map T.row).length:Int)=1:=rfl;simp only [T.size] at hlen hkl;rw [show (T.n1 n a).kids=[a] from rfl,hs,zty];have e1:ix ([a].map T.row) 0=a.row:=rfl;simp only [e1,T.zac];rw [zfi (by omega) (by omega),show zaa 0 ([a].map T.row).length=true from rfl,decide_eq_true (show (0:Int)<1 by omega),decide_eq_true (show (k:Int)-((i:Int)+1)-(a.size:Int)<0 by omega)];rfl
 |n2 n a b=>
  simp only at hm;have hs:(([a,b].map T.row).length:Int)=2:=rfl;rw [show (T.n2 n a b).kids=[a,b] from rfl,hs,zty];have e1:ix ([a,b].map T.row) 0=a.row:=rfl;have e2:ix ([a,b].map T.row) 1=b.row:=rfl;simp only [T.size] at hlen hkl;rcases hm with ⟨rfl,h2⟩|⟨rfl,h2,h3⟩
  ·simp only [e1,T.zac];rw [zfi (by omega) (by omega),show zaa 0 ([a,b].map T.row).length=true from rfl,decide_eq_true (show (0:Int)<2 by omega),decide_eq_true (show (k:Int)-((i:Int)+1)-(a.size:Int)<0 by omega)];rfl
  ·simp only [e1,T.zac];rw [zfi (n:=(k:Int)-((i:Int)+1)-(a.size:Int)) (by omega) (by omega),show zaa 0 ([a,b].map T.row).length=true from rfl,decide_eq_true (show (0:Int)<2 by omega),decide_eq_false (show ¬(k:Int)-((i:Int)+1)-(a.size:Int)<0 by omega)];simp only [cond_true,cond_false];rw [show w64 (0+1)=1 from rfl,zty];simp only [e2,T.zac];rw [zfi (by omega) (by omega),show zaa 1 ([a,b].map T.row).length=true from rfl,decide_eq_true (show (1:Int)<2 by omega),decide_eq_true (show (k:Int)-((i:Int)+1)-(a.size:Int)-(b.size:Int)<0 by omega)];rfl
theorem yfd [Dfr] (l:List Nd) (k:Nat) (x:Nat×Nat×T) (hx:yhb l k x):l.getD x.1 default=x.2.2.hd∧x.1<l.length:=by
 obtain ⟨hok,⟨r,hr⟩,hlt,hm⟩:=hx;have:l[x.1]? =some x.2.2.hd:=by rw [←List.head?_drop,hr];cases x.2.2<;>rfl
 exact ⟨by rw [List.getD_eq_getElem?_getD,this];rfl,(List.getElem?_eq_some_iff.1 this).1⟩
theorem qki [Dfr] (l:List Nd) (hl:l.length≤1000000) (k:Nat) (x:Nat×Nat×T) (hx:yhb l k x):zjf (x.1:Int) l (k:Int)=some (decide (goK x.2.2.hd.1≤x.2.1)):=by
 obtain ⟨h1,h2⟩:=yfd l k x hx;have h3:ix l (x.1:Int)=x.2.2.hd:=by rw [qar h2,←h1,List.getD_eq_getElem?_getD,List.getElem?_eq_getElem h2];rfl
 rw [qir,qwy l hl k x hx,Option.bind_some,zoq h2,h3,ykd];simp
theorem qsl [Dfr] [zcd] (l:List Nd) (t:T) (ht:tree l=some t) (hl:l.length≤1000000) (k:Nat) (hk:k<l.length):zxw (k:Int) l=some (qcm (t.path 0 k)):=by
 obtain ⟨hok,hrow⟩:=zga.1 ht;have hlen:l.length=t.size:=by rw [hrow,T.zac]
 have hp:=qrb l k t 0 [] hok (by rw [List.drop_zero,List.append_nil];exact hrow) (Nat.zero_le _) (by omega);rw [qnd,qqy ht hl hk,Option.bind_some];have hov:((t.ovr k).map fun (i:Nat)=>(i:Int))=(t.path 0 k).map fun x=>(x.1:Int):=by unfold T.ovr;rw [List.map_map];rfl
 have hval:∀x∈t.path 0 k,zjf (x.1:Int) l (k:Int)=some (decide (goK x.2.2.hd.1≤x.2.1)):=fun x hx=>qki l hl k x (hp x hx)
 have hpl:(t.path 0 k).length≤4611686018427387904:=by have:=T.zqb t 0 k;omega
 rw [hov,zry _ _ (fun j=>(zjf j l (k:Int)).getD false) (by rw [List.length_map];exact hpl) (fun j hj=>by obtain ⟨x,hx,rfl⟩:=List.mem_map.1 hj;refine (qfm _ l (k:Int)).trans ?_;rw [hval x hx];rfl),Option.bind_some]
 congr 1
 unfold qcm;rw [List.any_map,Bool.eq_iff_iff,List.any_eq_true,List.any_eq_true];constructor
 ·rintro ⟨x,hx,h⟩;refine ⟨x,hx,?_⟩;simp only [Function.comp,hval x hx,Option.getD_some] at h;exact h
 ·rintro ⟨x,hx,h⟩;refine ⟨x,hx,?_⟩;simp only [Function.comp,hval x hx,Option.getD_some];exact h
theorem count_one [Dfr] (x:Nd):([x].countP fun y=>decide (y.1∈([1,6,4,10]:List Int)))=if zdo x.1=true then 1 else 0:=by rw [List.countP_singleton];unfold zdo;simp
theorem qbc [Dfr] (l:List Nd) (hl:l.length≤1000000) (f:FnV) (idle:Nat→Bool) (hd:∀k,k<l.length→dyn E f [.one (.int .i64 (k:Int))] .bool=some (idle k)):∀(r:List Nd) (i:Nat) (acc:List Int),l.drop i=r→acc.length≤i→
 zhv l f acc (l.length:Int) (i:Int)=some (0,acc++((List.range' i r.length).filter fun k=>zdo (l.getD k default).1&& !idle k).map fun (k:Nat)=>(k:Int))
 |[],i,acc,h,ha=>by obtain ⟨h1,h2⟩:=drop_nil h;rw [zwb];simp only [h2,cond_false];simp
 |x::r,i,acc,h,ha=>by
  obtain ⟨hi,hd0,hix,hx,hr,hle⟩:=zab h;have hw:w64 ((i:Int)+1)=((i+1:Nat):Int):=by rw [zfi (by omega) (by omega)];omega
  have hcut:cut l (i:Int) ((i+1:Nat):Int)=[x]:=by rw [zpg,qyc h]
  have hg:l.getD i default=x:=by
   have:l[i]? =some x:=by rw [←List.head?_drop,h];rfl
   rw [List.getD_eq_getElem?_getD,this];rfl
  have hc:=qei [x] [1,6,4,10] (by simp) (by simp);rw [count_one] at hc;have ih:=fun acc ha=>qbc l hl f idle hd r (i+1) acc hr ha
  rw [zwb];simp only [hd0,cond_true,hw,zep (show i≤i+1 by omega) (show i+1≤l.length by omega),hcut,hc,Option.bind_some];rw [List.length_cons,List.range'_succ,List.filter_cons,hg];by_cases hwk:zdo x.1=true
  ·rw [if_pos hwk,hwk,hd i hi];cases hid:idle i with
   |true=>simp only [Option.bind_some,Bool.not_true,cond_false,Bool.and_false,Bool.false_eq_true,if_false];exact ih acc (by omega)
   |false=>simp only [Option.bind_some,Bool.not_false,cond_true,Bool.and_true,if_true,qqh (show (acc.length+1)*8≤140737488355328 by omega)];rw [ih (acc++[(i:Int)]) (by simp;omega)];simp
  ·rw [if_neg hwk];have:zdo x.1=false:=by cases h:zdo x.1;rfl;exact absurd h hwk
   rw [this];simp only [Bool.false_and,Bool.false_eq_true,if_false];exact ih acc (by omega)
theorem qiq [Dfr] [zcd] {l:List Nd} {t:T} (ht:tree l=some t) (hl:l.length≤1000000) (hs:l≠[]∧zbl l=l):zru l=some ((t.wts 0).map fun (k:Nat)=>(k:Int)):=by
 obtain ⟨hok,hrow⟩:=zga.1 ht;have hlen:l.length=t.size:=by rw [hrow,T.zac]
 have e:=qbc l hl ⟨zpf,[⟨true,(.slice 68 (.pair (.int .i64) (.pair .str (.int .i64)))),l⟩]⟩ (fun k=>qcm (t.path 0 k)) (fun k hk=>by refine (qkh (k:Int) l).trans ?_;exact qsl l t ht hl k hk) l 0 [] rfl (Nat.le_refl _);rw [Int.natCast_zero] at e;rw [qdp,zks l (by omega),decide_eq_true hs];simp only [Option.bind_some,Bool.not_true,cond_false,e];rw [zle l t 0 [] (by rw [List.drop_zero,List.append_nil];exact hrow),hlen,List.nil_append]
theorem qvg [Dfr] [zcd] {l:List Nd} (hl:l.length≤1000000) (hs:¬(l≠[]∧zbl l=l)):zru l=some []:=by rw [qdp,zks l (by omega),decide_eq_false hs];rfl
theorem zrs [Dfr] (l:List Nd) (hl:l.length≤1000000) (k:Nat) (xs:List Int) (hxl:xs.length≤1000000):∀(q:List (Nat×Nat×T)) (i:Nat) (out:List (List Nd)),(∀x∈q,yhb l k x)→xs.drop i=q.map (fun x=>(x.1:Int))→out.length≤i→
 zko l (k:Int) out false xs (xs.length:Int) (i:Int)=some (if (revB q out).2=true then (1,((revB q out).1,true)) else (0,((revB q out).1,false)))
 |[],i,out,hq,h,ho=>by obtain ⟨h1,h2⟩:=drop_nil h;rw [zvz];simp only [h2,cond_false,revB];rfl
 |x::q,i,out,hq,h,ho=>by
  have hx:=hq x (List.mem_cons_self ..);have hq':=fun y hy=>hq y (List.mem_cons_of_mem _ hy)
  obtain ⟨hi,hd0,hix,hxx,hr,hle⟩:=zab h;have hw:w64 ((i:Int)+1)=((i+1:Nat):Int):=by rw [zfi (by omega) (by omega)];omega
  obtain ⟨g1,g2⟩:=yfd l k x hx;have g3:ix l (x.1:Int)=x.2.2.hd:=by rw [qar g2,←g1,List.getD_eq_getElem?_getD,List.getElem?_eq_getElem g2];rfl
  rw [zvz];simp only [hd0,cond_true,hix,hxx,zoq g2,g3,hw];by_cases h9:x.2.2.hd.1=9
  ·rw [show (x.2.2.hd.1==9)=true by rw [h9];rfl];simp only [cond_true,revB,if_pos h9];rfl
  ·rw [show (x.2.2.hd.1==9)=false by rw [beq_eq_false_iff_ne];exact h9];simp only [cond_false];by_cases h7:x.2.2.hd.1=7
   ·rw [show (x.2.2.hd.1==7)=true by rw [h7];rfl];have hk:=qwy l hl k x hx;obtain ⟨hok,⟨r,hrr⟩,hlt,hm⟩:=hx;have hkids:zha (cut l (x.1:Int) (l.length:Int))=some (x.2.2.kids.map T.row):=by rw [qbd,hrr,zjl _ (by have:=congrArg List.length hrr;rw [List.length_drop] at this;omega)];unfold zea;rw [qfr hok]
    have hko:zaa (w64 (1-(x.2.1:Int))) (x.2.2.kids.map T.row).length=true∧ix (x.2.2.kids.map T.row) (w64 (1-(x.2.1:Int)))=x.2.2.kid (1-x.2.1):=by
     obtain ⟨i0,j,s⟩:=x;simp only at hok hm h7 ⊢;cases s with
     |n0 n=>exact hm.elim
     |n1 n a=>have:ar n.1=some 1:=hok.1;rw [show n.1=7 from h7] at this;cases this
     |n2 n a b=>
      simp only at hm;rcases hm with ⟨rfl,_⟩|⟨rfl,_⟩
      ·exact ⟨rfl,rfl⟩
      ·exact ⟨rfl,rfl⟩
    simp only [cond_true,zep (show x.1≤l.length by omega) (Nat.le_refl _),hkids,hk,Option.bind_some,hko.1,hko.2,qqh (show (out.length+1)*24≤140737488355328 by omega)];rw [zrs l hl k xs hxl q (i+1) _ hq' hr (by simp;omega)];simp only [revB,if_neg h9,if_pos h7]
   ·rw [show (x.2.2.hd.1==7)=false by rw [beq_eq_false_iff_ne];exact h7];simp only [cond_false];rw [zrs l hl k xs hxl q (i+1) out hq' hr (by omega)];simp only [revB,if_neg h9,if_neg h7]
theorem ybp [Dfr] [zcd] {l:List Nd} {t:T} (ht:tree l=some t) (hl:l.length≤1000000) (hs:l≠[]∧zbl l=l) {k:Nat} (hk:k∈t.wts 0):qfl l (k:Int)=some (zaq (t.path 0 k)):=by
 obtain ⟨hok,hrow⟩:=zga.1 ht;have hlen:l.length=t.size:=by rw [hrow,T.zac]
 have hkr:=zys t 0 k hk;have hp:=qrb l k t 0 [] hok (by rw [List.drop_zero,List.append_nil];exact hrow) (Nat.zero_le _) (by omega);have hpl:=T.zqb t 0 k;have hwl:((t.wts 0).map fun (k:Nat)=>(k:Int)).length≤4611686018427387904:=by rw [List.length_map,zle l t 0 [] (by rw [List.drop_zero,List.append_nil];exact hrow)];have:=List.length_filter_le (fun k=>zdo (l.getD k default).1&& !qcm (t.path 0 k)) (List.range' 0 t.size);rw [List.length_range'] at this;omega
 have hmem:(k:Int)∈(t.wts 0).map fun (k:Nat)=>(k:Int):=List.mem_map.2 ⟨k,hk,rfl⟩
 have hov:((t.ovr k).map fun (i:Nat)=>(i:Int)).reverse=(t.path 0 k).reverse.map fun x=>(x.1:Int):=by unfold T.ovr;rw [List.map_map,←List.map_reverse];rfl
 have e:=zrs l hl k ((t.path 0 k).reverse.map fun x=>(x.1:Int)) (by simp;omega) (t.path 0 k).reverse 0 [] (fun x hx=>hp x (List.mem_reverse.1 hx)) rfl (Nat.le_refl _);rw [Int.natCast_zero] at e;rw [qve,qiq ht hl hs,Option.bind_some,zmu _ _ hwl,decide_eq_true hmem,qqy ht hl (by omega)];simp only [Option.bind_some,Bool.not_true,cond_false,hov,e,qlj];cases hb:(zaq (t.path 0 k)).2 with
 |true=>simp only [if_true];exact congrArg some (Prod.ext rfl hb.symm)
 |false=>simp only [Bool.false_eq_true,if_false];exact congrArg some (Prod.ext rfl hb.symm)
theorem zxv [Dfr]:∀(t:T),t.ok→t.size≤1000000000→zje t.row=some t.bang
 | .n0 n,hok,hl=>by
   have hkid:zha (T.n0 n).row=some []:=by rw [zjl _ (by rw [T.zac];exact hl)];unfold zea;rw [qds hok];rfl
   have e:ix (T.n0 n).row 0=n:=rfl;have e2:zaa 0 (T.n0 n).row.length=true:=rfl;rw [ztz,hkid];simp only [Option.bind_some,e,e2,cond_true];rcases ar0 hok with h|h|h|h|h<;>rw [T.bang,h]<;>rfl
 | .n1 n a,hok,hl=>by
   have hkid:zha (T.n1 n a).row=some [a.row]:=by rw [zjl _ (by rw [T.zac];exact hl)];unfold zea;rw [qds hok];rfl
   have e:ix (T.n1 n a).row 0=n:=rfl;have e2:zaa 0 (T.n1 n a).row.length=true:=zam (by rw [T.zac];exact T.zux _);rw [ztz,hkid];simp only [Option.bind_some,e,e2,cond_true];rcases ar1 hok.1 with h|h<;>rw [T.bang,h]<;>rfl
 | .n2 n a b,hok,hl=>by
   have hkid:zha (T.n2 n a b).row=some [a.row,b.row]:=by rw [zjl _ (by rw [T.zac];exact hl)];unfold zea;rw [qds hok];rfl
   have e:ix (T.n2 n a b).row 0=n:=rfl;have e2:zaa 0 (T.n2 n a b).row.length=true:=zam (by rw [T.zac];exact T.zux _);have e3:ix [a.row,b.row] 0=a.row:=rfl;have e4:ix [a.row,b.row] 1=b.row:=rfl;have i0:zaa 0 [a.row,b.row].length=true:=rfl;have i1:zaa 1 [a.row,b.row].length=true:=rfl;simp only [T.size] at hl;have ha:=zxv a hok.2.1 (by omega);have hb:=zxv b hok.2.2 (by omega);rw [ztz,hkid];simp only [Option.bind_some,e,e2,e3,e4,i0,i1,cond_true,ha,hb];rcases ar2 hok.1 with h|h|h|h|h|h|h<;>rw [T.bang,h]<;>first|rfl|(cases a.bang<;>rfl)
theorem ybr [Dfr] {l:List Nd} {t:T} (ht:tree l=some t) (hl:l.length≤1000000):zrt l=some (decide (l≠[]∧zbl l=l)&&t.bang):=by
 obtain ⟨hok,hrow⟩:=zga.1 ht;have hlen:l.length=t.size:=by rw [hrow,T.zac]
 rw [qvf,zks l (by omega)];by_cases hs:l≠[]∧zbl l=l
 ·rw [decide_eq_true hs];simp only [Option.bind_some,cond_true,Bool.true_and];rw [hrow,zxv t hok (by omega)];rfl
 ·rw [decide_eq_false hs];rfl
theorem yke [Dfr] [zcd] {l:List Nd} {t:T} (ht:tree l=some t) (hl:l.length≤1000000) (hs:l≠[]∧zbl l=l) {k:Nat} (hk:k∈t.wts 0) (dm:List Nd→Bool) (hd:∀x∈(zaq (t.path 0 k)).1,zrt x=some (dm x)) (hbl:(zaq (t.path 0 k)).1.length≤1000000):
 zwa l (k:Int)=some (!(zaq (t.path 0 k)).2||(zaq (t.path 0 k)).1.any dm):=by
 rw [ygl,ybp ht hl hs hk,Option.bind_some];cases hb:(zaq (t.path 0 k)).2 with
 |false=>rfl
 |true=>simp only [Bool.not_true,cond_false,Bool.false_or];rw [zms _ _ dm (by omega) (fun x hx=>(qsk x).trans (hd x hx))];rfl
end Go.Proofs.YtjolkdjkhekbnaaGreatDoor.Sv
