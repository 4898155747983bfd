/- What the functions of package row compute: in plain words. -/
import Derived.Test.YtjolkdjkhekbnaaGreatDoorM1
import Derived.Test.YtjolkdjkhekbnaaGreatDoorSvK
import Derived.Deep.RegionHeld3
set_option linter.unusedVariables false
set_option linter.unusedSimpArgs false
namespace Go.Proofs.YtjolkdjkhekbnaaGreatDoor.Sv
open Go Go.Sv Go.Rd
theorem zox [Dfr] (k:Int):znx k=some (arI k):=by
 rw [yfj];by_cases h1:k=1; · subst h1;rfl
 by_cases h2:k=2; · subst h2;rfl
 by_cases h3:k=3; · subst h3;rfl
 by_cases h4:k=4; · subst h4;rfl
 by_cases h5:k=5; · subst h5;rfl
 by_cases h6:k=6; · subst h6;rfl
 by_cases h7:k=7; · subst h7;rfl
 by_cases h8:k=8; · subst h8;rfl
 by_cases h9:k=9; · subst h9;rfl
 by_cases h10:k=10; · subst h10;rfl
 by_cases h11:k=11; · subst h11;rfl
 by_cases h12:k=12; · subst h12;rfl
 by_cases h13:k=13; · subst h13;rfl
 by_cases h14:k=14; · subst h14;rfl
 have e:∀c:Int,¬k=c→(k==c)=false:=fun c h=>beq_false_of_ne h
 simp only [e _ h1,e _ h2,e _ h3,e _ h4,e _ h5,e _ h6,e _ h7,e _ h8,e _ h9,e _ h10,e _ h11,e _ h12,e _ h13,e _ h14,cond_false];simp [arI,ar, *]
theorem ypq [Dfr] (xs ys:List Nd) (hx:xs.length≤4611686018427387904):yas xs ys=some (decide (xs=ys)):=by rw [yjm,zwu xs ys hx];rfl
def scan:Nat→List Nd→Option Nat
 |_,[]=>none
 |k,n::l=>match ar n.1 with
  |none=>none
  |some m=>if k+m=1 then some 1 else (scan (k+m-1) l).map (· +1)
theorem yew [Dfr] (k:Nat) (n:Nd) (l:List Nd):scan k (n::l)=match ar n.1 with
 |none=>none
 |some m=>if k+m=1 then some 1 else (scan (k+m-1) l).map (· +1):=rfl
theorem xju [Dfr]:∀(n:Nat) (l:List Nd) (k:Nat),l.length≤n→scan (k+1) l=match P l with
 |none=>none
 |some (t,r)=>if k=0 then some t.size else (scan k r).map (t.size+ ·):=by
 intro n
 induction n with
 |zero=>intro l k h;have:l=[]:=List.eq_nil_of_length_eq_zero (by omega);subst this;rfl
 |succ n ih=>
  intro l k h;cases l with
  |nil=>rfl
  |cons x l=>
   simp only [List.length_cons] at h;rw [xfq,yew];cases ha:ar x.1 with
   |none=>rfl
   |some m=>
    have hm:=yxs ha;rcases m with _|_|_|m
    ·simp only [Nat.add_zero];by_cases hk:k=0
     ·simp [hk,T.size]
     ·rw [if_neg (by omega)];simp only [hk,if_false,Nat.add_sub_cancel,T.size]
      congr 1;funext q;omega
    ·simp only;rw [if_neg (by omega),show k+1+(0+1)-1=k+1 by omega,ih l k (by omega)];cases hp:P l with
     |none=>rfl
     |some q=>
      obtain ⟨a,r⟩:=q;simp only;by_cases hk:k=0
      ·simp [hk,T.size]
      ·simp only [hk,if_false,Option.map_map,T.size]
       congr 1;funext q;simp only [Function.comp];omega
    ·simp only;rw [if_neg (by omega),show k+1+(0+1+1)-1=k+1+1 by omega,ih l (k+1) (by omega)];cases hp:P l with
     |none=>rfl
     |some q=>
      obtain ⟨a,r⟩:=q;simp only;rw [if_neg (by omega)];have hl:=congrArg List.length (zxu hp).2;rw [List.length_append,T.zab] at hl;rw [ih r k (by omega)];cases hp2:P r with
      |none=>rfl
      |some q2=>
       obtain ⟨b,r2⟩:=q2;simp only;by_cases hk:k=0
       ·simp [hk,T.size]
       ·simp only [hk,if_false,Option.map_map,T.size]
        congr 1;funext q;simp only [Function.comp];omega
    ·omega
theorem qmq [Dfr] (l:List Nd) (y:Int) (hl:l.length≤1000000000000):∀(r:List Nd) (i k:Nat),l.drop i=r→1≤k→k+r.length*2≤4000000000000→zys y (k:Int) l (l.length:Int) (i:Int)=some (match scan k r with|some n=>(1,((i+n:Nat):Int))|none=>(0,y))
 |[],i,k,h,hk,hb=>by obtain ⟨h1,h2⟩:=drop_nil h;rw [qes];simp only [h2,cond_false,scan]
 |x::r,i,k,h,hk,hb=>by
  obtain ⟨h1,h2,h3,h4,h5,h6⟩:=zae h;simp only [List.length_cons] at hb;rw [qes];simp only [h2,h3,h4,cond_true,zox,Option.bind_some];rw [yew];cases ha:ar x.1 with
  |none=>simp only [arI,ha];rfl
  |some m=>
   have hm:=yxs ha;have e1:arI x.1=(m:Int):=by simp [arI,ha]
   have e2:decide ((m:Int)<0)=false:=decide_eq_false (by omega);have e3:w64 ((k:Int)+w64 ((m:Int)-1))=((k+m-1:Nat):Int):=by rw [zgz (n:=(m:Int)-1) (by omega) (by omega),zgz (by omega) (by omega)];omega
   simp only [e1,e2,cond_false,e3,zbj (show i<9223372036854775807 by omega)];by_cases hz:k+m=1
   ·have e4:(((k+m-1:Nat):Int)==0)=true:=by rw [hz];rfl
    rw [if_pos hz];simp only [e4,cond_true]
   ·have e4:(((k+m-1:Nat):Int)==0)=false:=beq_false_of_ne (by omega);rw [if_neg hz];simp only [e4,cond_false];rw [qmq l y hl r (i+1) (k+m-1) h5 (by omega) (by omega)];cases scan (k+m-1) r with
    |none=>rfl
    |some n=>simp only [Option.map_some];congr 3;omega
theorem zow [Dfr] (l:List Nd) (hl:l.length≤1000000000):zmq l=some (sz l:Int):=by
 rw [yjl];have h:=qmq l 0 (by omega) l 0 1 rfl (by omega) (by omega);rw [xju l.length l 0 (Nat.le_refl _)] at h;rw [Int.natCast_zero,show ((1:Nat):Int)=1 from rfl] at h;rw [h];unfold sz;cases P l with
 |none=>rfl
 |some q=>simp [Nat.beq]
theorem zjq [Dfr] (l:List Nd) (hl:l.length≤1000000000):zgr l=some (zfl l):=by
 rw [yjp];simp only [zow l hl,Option.bind_some];unfold zfl sz;cases h:P l with
 |none=>rfl
 |some q=>
  obtain ⟨t,r⟩:=q;obtain ⟨hok,hl2⟩:=zxu h;have hp:=t.zdj;have e0:(((t.size:Nat):Int)==0)=false:=beq_false_of_ne (by omega);simp only [e0,cond_false];have szd:∀(i:Nat) (a:T) (s:List Nd),a.ok→l.drop i=a.row++s→i≤l.length→zbe (i:Int) (l.length:Int) l.length=true∧zmq (cut l (i:Int) (l.length:Int))=some (a.size:Int)∧w64 ((i:Int)+(a.size:Int))=((i+a.size:Nat):Int)∧zez (cut l (i:Int) ((i+a.size:Nat):Int))=some a.row:=by
   intro i a s ha hd hi;obtain ⟨k1,k2,k3,k4⟩:=ziw hd;refine ⟨zld hi (Nat.le_refl _),?_,?_,?_⟩
   ·rw [yda,hd,zow _ (by have:=congrArg List.length hd;rw [List.length_drop] at this;omega)];unfold sz;rw [qem ha]
   ·rw [zgz (by omega) (by omega)];omega
   ·rw [k1,znk _ (by rw [T.zab];omega)]
  cases t with
  |n0 n=>
   have ha:ar n.1=some 0:=hok;have hix:ix l 0=n:=by rw [hl2];rfl
   have hid:zaa 0 l.length=true:=zax (by rw [hl2];simp [T.row]);simp only [hid,hix,cond_true,zox,Option.bind_some,arI,ha];rw [zjr];rfl
  |n1 n a=>
   have ha:ar n.1=some 1:=hok.1;have hix:ix l 0=n:=by rw [hl2];rfl
   have hid:zaa 0 l.length=true:=zax (by rw [hl2];simp [T.row]);have hd1:l.drop 1=a.row++r:=by rw [hl2];rfl
   obtain ⟨k1,k2,k3,k4⟩:=ziw hd1;obtain ⟨s1,s2,s3,s4⟩:=szd 1 a r hok.2 hd1 (by omega);simp only [hid,hix,cond_true,zox,Option.bind_some,arI,ha];rw [zjr,show decide ((0:Int)<((1:Nat):Int))=true from rfl,show (1:Int)=((1:Nat):Int) from rfl];simp only [cond_true,s1,s2,s3,s4,k4,Option.bind_some,room (show (([]:List (List Nd)).length+1)*24≤140737488355328 by decide)];rw [zjr];rfl
  |n2 n a b=>
   have ha:ar n.1=some 2:=hok.1;have hix:ix l 0=n:=by rw [hl2];rfl
   have hid:zaa 0 l.length=true:=zax (by rw [hl2];simp [T.row]);have hd1:l.drop 1=a.row++(b.row++r):=by rw [hl2];simp [T.row]
   obtain ⟨k1,k2,k3,k4⟩:=ziw hd1;obtain ⟨s1,s2,s3,s4⟩:=szd 1 a _ hok.2.1 hd1 (by omega);obtain ⟨j1,j2,j3,j4⟩:=ziw k2;obtain ⟨u1,u2,u3,u4⟩:=szd (1+a.size) b _ hok.2.2 k2 k3;simp only [hid,hix,cond_true,zox,Option.bind_some,arI,ha];rw [zjr,show decide ((0:Int)<((2:Nat):Int))=true from rfl,show (1:Int)=((1:Nat):Int) from rfl];simp only [cond_true,s1,s2,s3,s4,k4,Option.bind_some,room (show (([]:List (List Nd)).length+1)*24≤140737488355328 by decide)];rw [zjr,show decide (w64 (0+((1:Nat):Int))<((2:Nat):Int))=true from rfl];simp only [cond_true,u1,u2,u3,u4,j4,Option.bind_some,List.nil_append,room (show (([a.row]:List (List Nd)).length+1)*24≤140737488355328 by simp)];rw [zjr];rfl
theorem qdi [Dfr] (n:Nd) (ks:List (List Nd)) (hx:zdb ks≤1000000) (hn:ks.length≤1000000):zcf n ks=some (n::ks.flatten):=by rw [yjo,zvk ks (by omega) (by omega)];have:=zvd ks;simp only [Option.bind_some,room (show (1+ks.flatten.length)*32≤140737488355328 by omega),cond_true];rfl
theorem ytt [Dfr] (n:Nd) (a b:List Nd) (ha:a.length≤100000) (hb:b.length≤100000):zcf n [a,b]=some (n::(a++b)):=by rw [qdi n [a,b] (by simp [zdb];omega) (by simp)];simp
theorem yfh [Dfr] (n:Nd) (a:List Nd) (ha:a.length≤100000):zcf n [a]=some (n::a):=by rw [qdi n [a] (by simp [zdb];omega) (by simp)];simp
theorem yjq [Dfr]:∀(n:Nat) (t:T) (r:List Nd),t.ok→t.size≤n→t.size+r.length≤1000000000→qbn (t.row++r)=some (t.depth:Int):=by
 intro n
 induction n with
 |zero=>intro t r h h1;have:=t.zdj;omega
 |succ n ih=>
  intro t r hok hs hb;rw [qmr];have hlen:(t.row++r).length≤1000000000:=by rw [List.length_append,T.zab];exact hb
  have hp:=t.zdj;have e0:(((t.size:Nat):Int)==0)=false:=beq_false_of_ne (by omega);simp only [zow _ hlen,sz,zfl,qem hok,Option.bind_some,e0,cond_false,zjq _ hlen];have hd:=t.zpt;cases t with
  |n0 m=>rw [zid];rfl
  |n1 m a=>simp only [T.size] at hs hb;have ha:=ih a [] hok.2 (by omega) (by simp;omega);rw [List.append_nil] at ha;have hda:=a.zpt;have hdp:=a.qcw;simp only [T.kids,List.map_cons,List.map_nil,List.length_cons,List.length_nil];rw [zid];simp only [show decide ((0:Int)<((0+1:Nat):Int))=true from rfl,show zaa 0 [a.row].length=true from rfl,cond_true,show ix [a.row] 0=a.row from rfl,ha,Option.bind_some];rw [zid,if_pos (by omega)];simp only [show decide (w64 (0+1)<((0+1:Nat):Int))=false from rfl,cond_false,Option.bind_some,T.depth];rw [zbj (by omega)]
  |n2 m a b=>
   simp only [T.size] at hs hb;have ha:=ih a [] hok.2.1 (by omega) (by simp;omega);have hb2:=ih b [] hok.2.2 (by omega) (by simp;omega);rw [List.append_nil] at ha hb2;have hda:=a.zpt;have hdp:=a.qcw;have hdb:=b.zpt;simp only [T.kids,List.map_cons,List.map_nil,List.length_cons,List.length_nil];rw [zid];simp only [show decide ((0:Int)<((0+1+1:Nat):Int))=true from rfl,show zaa 0 [a.row,b.row].length=true from rfl,cond_true,show ix [a.row,b.row] 0=a.row from rfl,ha,Option.bind_some];rw [zid,if_pos (by omega)];simp only [show decide (w64 (0+1)<((0+1+1:Nat):Int))=true from rfl,show zaa (w64 (0+1)) [a.row,b.row].length=true from rfl,cond_true,show ix [a.row,b.row] (w64 (0+1))=b.row from rfl,hb2,Option.bind_some];rw [zid];simp only [show decide (w64 (w64 (0+1)+1)<((0+1+1:Nat):Int))=false from rfl,cond_false,Option.bind_some,T.depth];by_cases hc:(b.depth:Int)>(a.depth:Int)
   ·rw [if_pos hc,zbj (by omega),show max a.depth b.depth=b.depth by omega]
   ·rw [if_neg hc,zbj (by omega),show max a.depth b.depth=a.depth by omega]
theorem yjr [Dfr] (l:List Nd) (hl:l.length≤1000000000):qbn l=some (dep l:Int):=by
 unfold dep;cases h:P l with
 |none=>rw [qmr,zow l hl];simp only [sz,h,Option.bind_some];rfl
 |some q=>obtain ⟨t,r⟩:=q;obtain ⟨h1,rfl⟩:=zxu h;exact yjq t.size t r h1 (Nat.le_refl _) (by rw [List.length_append,T.zab] at hl;exact hl)
def letters:ByteArray:=⟨#[97,98,99,100,101,102,103,104,105,106,107,108,109,110,111,112,113,114,115,116,117,118,119,120,121,122]⟩
theorem yky [Dfr] (b:UInt8):letters.data.toList.contains b=lowB b:=by
 have h:∀n:Nat,n<256→letters.data.toList.contains (UInt8.ofNat n)=lowB (UInt8.ofNat n):=by decide +kernel
 have:=h b.toNat b.toNat_lt
 rwa [UInt8.ofNat_toNat] at this
theorem qjy [Dfr] {p:UInt8→Bool}:∀{l:List UInt8},l.dropWhile p=[]↔l.all p=true
 |[]=>by simp
 |x::r=>by
  rw [List.dropWhile_cons,List.all_cons];cases h:p x with
  |true=>simpa using qjy (l:=r)
  |false=>simp
theorem qjz [Dfr] {p:UInt8→Bool}:∀{l:List UInt8},(l.dropWhile p).all p=true↔l.all p=true
 |[]=>by simp
 |x::r=>by
  rw [List.dropWhile_cons,List.all_cons];cases h:p x with
  |true=>simpa using qjz (l:=r)
  |false=>simp [h]
theorem yxt [Dfr] {p:UInt8→Bool} (l:List UInt8):l.reverse.all p=l.all p:=by rw [Bool.eq_iff_iff,List.all_eq_true,List.all_eq_true];exact ⟨fun h x hx=>h x (List.mem_reverse.2 hx),fun h x hx=>h x (List.mem_reverse.1 hx)⟩
theorem ysf [Dfr] (l cs:List UInt8):Lib.trimS l cs=[]↔l.all (cs.contains ·)=true:=by unfold Lib.trimS Lib.trimLeftS Lib.trimRightS;rw [qjy,yxt,qjz,yxt]
theorem yjj [Dfr] (s:ByteArray):qrk s=some (qoa s):=by
 rw [yfd];simp only [str_eq,qtt];by_cases h0:s=ByteArray.empty
 ·subst h0;rfl
 ·have hsz:1≤s.size:=by
   rcases Nat.eq_zero_or_pos s.size with h|h
   ·exfalso;apply h0;obtain ⟨⟨l⟩⟩:=s;have:l=[]:=List.eq_nil_of_length_eq_zero h;rw [this];rfl
   ·exact h
  simp only [decide_eq_false h0,Bool.not_false,cond_true];by_cases h8:s.size≤8
  ·have e2:decide ((s.size:Int)≤8)=true:=decide_eq_true (by omega);have ht:qay s (⟨#[97,98,99,100,101,102,103,104,105,106,107,108,109,110,111,112,113,114,115,116,117,118,119,120,121,122]⟩)=some ⟨(Lib.trimS s.data.toList letters.data.toList).toArray⟩:=by rw [qqd];unfold zlg qoq;rw [decide_eq_true (show s.size≤9223372036854775807 by omega)];rfl
   have e3:decide ((⟨(Lib.trimS s.data.toList letters.data.toList).toArray⟩:ByteArray)=ByteArray.empty)=s.data.toList.all lowB:=by
    rw [show (ByteArray.empty:ByteArray)=⟨([]:List UInt8).toArray⟩ from rfl];have e4:((⟨(Lib.trimS s.data.toList letters.data.toList).toArray⟩:ByteArray)=⟨([]:List UInt8).toArray⟩)↔Lib.trimS s.data.toList letters.data.toList=[]:=by
     constructor
     ·intro h;injection h with h;injection h
     ·intro h;rw [h]
    have this:(fun x=>letters.data.toList.contains x)=lowB:=funext yky;have e5:=e4.trans (ysf s.data.toList letters.data.toList);rw [this] at e5;cases hA:s.data.toList.all lowB with
    |true=>exact decide_eq_true (e5.2 hA)
    |false=>exact decide_eq_false fun h=>by rw [e5.1 h] at hA;cases hA
   simp only [e2,cond_true,ht,Option.bind_some,e3,zvj qbl s (by decide),qoa];rw [show qbl=ymo from rfl,decide_eq_true hsz,decide_eq_true h8];cases s.data.toList.all lowB<;>rfl
  ·have e2:decide ((s.size:Int)≤8)=false:=decide_eq_false (by omega);simp [e2,qoa,h8]
theorem yjn [Dfr] (n:Nd):qrq n=some (right n):=by
 rw [yfg];simp only [zox,Option.bind_some,str_eq,qtt,yjj,int_eq,decide_true,Bool.true_and];unfold right;by_cases h1:n.1=1
 ·simp only [h1,decide_true,cond_true,if_true];cases qoa n.2.1<;>cases decide (n.2.2=0)<;>rfl
 ·by_cases h2:n.1=11
  ·simp [h2,zmc];by_cases c1:n.2.1=ByteArray.empty<;>by_cases c2:1≤n.2.2<;>simp [c1,c2]
  ·by_cases h3:n.1=14
   ·simp [h3,zmc];by_cases c1:n.2.1=ByteArray.empty<;>by_cases c2:1≤n.2.2<;>simp [c1,c2]
   ·simp only [h1,h2,h3,decide_false,cond_false,or_self,if_false];have e:decide (arI n.1≥0)=(ar n.1).isSome:=by
     unfold arI;cases ar n.1 with
     |none=>rfl
     |some m=>simp
    rw [e];by_cases c1:n.2.1=ByteArray.empty<;>by_cases c2:n.2.2=0<;>cases (ar n.1).isSome<;>simp [c1,c2]
theorem yar [Dfr] (n:Nd):qgd n=some (!right n):=by rw [qvm,yjn];rfl
theorem yjk [Dfr] (l:List Nd) (hl:l.length≤4611686018427387904):qrp l=some (whole l):=by
 rw [yfe];unfold whole;rw [xlb];by_cases h1:1≤l.length
 ·have e1:decide ((l.length:Int)>0)=true:=decide_eq_true (by omega);by_cases h2:l.length≤200
  ·have e2:decide ((l.length:Int)≤200)=true:=decide_eq_true (by omega);have hc:=zot l ⟨zvp,[]⟩ (fun n=> !right n) (by omega) (fun x hx=>by rw [qro];exact yar x);have ea:(!(l.any fun n=> !right n))=l.all right:=by rw [List.not_any_eq_all_not];simp
   simp only [e1,e2,cond_true,hc,Option.bind_some,ea,zow l (by omega),int_eq,h1,h2,decide_true,and_true,Bool.true_and];cases l.all right with
   |false=>rfl
   |true=>
    simp only [cond_true,Bool.true_and]
    congr 1
    rw [decide_eq_decide];omega
  ·have e2:decide ((l.length:Int)≤200)=false:=decide_eq_false (by omega);simp only [e1,e2,cond_true,cond_false,h2,decide_false,Bool.false_and,Bool.and_false]
 ·have e1:decide ((l.length:Int)>0)=false:=decide_eq_false (by omega);simp only [e1,cond_false,h1,and_false,decide_false,Bool.and_false]
theorem qgg [Dfr] (ks:List Int) (l:List Nd) (hl:l.length≤1000000000) (hk:ks.length≤1000):∀(r:List Nd) (i n:Nat),l.drop i=r→n≤i→zqe ks (n:Int) l (l.length:Int) (i:Int)=some (0,((n+r.countP (fun x=>decide (x.1∈ks)):Nat):Int))
 |[],i,n,h,hn=>by obtain ⟨h1,h2⟩:=drop_nil h;rw [qbo];simp only [h2,cond_false,List.countP_nil,Nat.add_zero]
 |x::r,i,n,h,hn=>by
  obtain ⟨h1,h2,h3,h4,h5,h6⟩:=zae h;rw [qbo];simp only [h2,h3,h4,cond_true,zoo ks _ (show ks.length≤4611686018427387904 by omega),Option.bind_some,zbj (show i<9223372036854775807 by omega),zbj (show n<9223372036854775807 by omega),List.countP_cons];cases h7:decide (x.1∈ks) with
  |true=>
   simp only [cond_true,qgg ks l hl hk r (i+1) (n+1) h5 (by omega),if_true]
   congr 3;omega
  |false=>simp only [cond_false,qgg ks l hl hk r (i+1) n h5 (by omega),Bool.false_eq_true,if_false,Nat.add_zero]
theorem qgf [Dfr] (l:List Nd) (ks:List Int) (hl:l.length≤1000000000) (hk:ks.length≤1000):qbp l ks=some ((l.countP (fun x=>decide (x.1∈ks)):Nat):Int):=by rw [yfi];have:=qgg ks l hl hk l 0 0 rfl (by omega);rw [Int.natCast_zero] at this;rw [this,Nat.zero_add];rfl
open Go Go.Sv Go.Proofs Go.Rd Go.RowKit
set_option maxRecDepth 100000
theorem Cl.lift [Dfr] {F F':Nat→Prop} {w:World} (h:∀b,F' b→F b) {t:Ty} {x:t.den} {cs:List Value} (hc:Cl F w t x cs):Cl F' w t x cs:=
 Cl.step ⟨fun _ _ _=>rfl,fun b hb=>.inl (h b hb)⟩ hc
theorem qrj [Dfr] {F:Nat→Prop} {T:Fr} {w:World} {e:TypeId} {u:Ty} {xs:List u.den} {g:Tag} {v:Value} (hF:∀n b l,T.tg n=some (b,l)→¬F b) (hx:g≠.nil) (h:RC (T.F F) T w (.slice e u xs g) v):Cl F w (.slice e u) xs [v]:=by
 have hsub:∀b,F b→T.F F b:=fun b hb=>.inl hb
 cases g with
 |no=>exact Cl.lift hsub h
 |nil=>exact absurd rfl hx
 |exact=>exact Cl.lift hsub h.1
 |own n=>
  rcases h with ⟨_,rfl,a,rfl⟩|⟨b,l,ht,h1,cap,cur,rfl,hh,hc,hm,hs,hel⟩
  ·rw [Cl];exact ⟨a,0,rfl,Nat.le_refl _,.inl rfl⟩
  ·rw [Cl];refine ⟨_,cap,rfl,hc,.inr ⟨_,rfl,hF n b l ht,fun i x hi=> ?_⟩⟩;obtain ⟨ds,hd,hj⟩:=hel i x hi;refine ⟨ds,Cl.lift hsub hd,fun j u hu=> ?_⟩;have:=hj j u hu;rw [zjf,cell_of_block hh,Nat.zero_add];exact this
theorem zkt [Dfr] [zfm] (f:Nat) (x:Tup (E.sig f).args) (r:Tup (E.sig f).res) (hrun:∃q,run E q f x=some r) {W:World} {F:Nat→Prop} {vs:List Value} (hF:∀b,F b→b<W.heap.size) (hg:zfe E F W)
 (hargs:All2 (fun (p:Nat×PV) v=>RP F ⟨fun _=>none,fun _=>none⟩ W p.2 v) (zlu 0 (E.sig f).args x) vs):
 Calls Tryz.prog f vs.toArray W fun e w'=>∃v,e= .returned v∧Kept (fun _=>False) W w'∧∃T:Fr,RP (T.F F) T w' (yau 0 (E.sig f).res r) v∧(∀d,T.bx d=none)∧∀n b l,T.tg n=some (b,l)→¬F b:=by
 obtain ⟨q,hq⟩:=hrun;obtain ⟨hf,hct⟩:=zqd qwp q f x r hq;have hFr:∀b,Fr.F ⟨fun _=>none,fun _=>none⟩ F b→F b:=fun b h=>by
  rcases h with h|⟨d,h⟩|⟨n,l,h⟩
  ·exact h
  ·cases h
  ·cases h
 have hst:Step F (Fr.F ⟨fun _=>none,fun _=>none⟩ F) W W:=⟨fun _ _ _=>rfl,fun b h=>.inl (hFr b h)⟩;have hargs':All2 (fun (p:Nat×PV) v=>RP (Fr.F ⟨fun _=>none,fun _=>none⟩ F) ⟨fun _=>none,fun _=>none⟩ W p.2 v) (zlu 0 (E.sig f).args x) vs:=by
  have e:Fr.F ⟨fun _=>none,fun _=>none⟩ F=F:=funext fun b=>propext ⟨hFr b,fun h=>.inl h⟩
  rw [e];exact hargs
 refine (hct W F (fun _=>False) ⟨fun _=>none,fun _=>none⟩ vs ⟨hargs',fun _=>rfl,fun n b l h=>(by cases h),fun n n' b l l' h=>(by cases h),fun b h=>⟨hF b h,fun h=>h⟩,hg.step hst⟩).mono ?_;rintro e w' ⟨v,rfl,hk,hr⟩;obtain ⟨T,hT⟩:=hr 0;refine ⟨v,rfl,hk,T,hT.rel,hT.bx,fun n b l h hFb=> ?_⟩;rcases (hT.tgm n b l h).1 with h1|h1
 ·have:=hF b hFb;omega
 ·exact h1
open Go Go.Sv Go.Proofs Go.Rd Go.RowKit Go.MapKept
def qhi (es:Array MapEntry):Prop:=∀x∈es.toList,∃s,x.key= .string s
theorem qhi.isKey {es:Array MapEntry} (h:qhi es):∀x∈es.toList,IsKey .string x.key:=fun x hx=>by obtain ⟨s,e⟩:=h x hx;rw [e];trivial
theorem qst {P:Program} {w:World} {mty kt et:TypeId} {mb clk:Nat} {es:Array MapEntry} {k:ByteArray} (hu:P.underlying mty=some (.map kt et)) (hk:P.underlying kt=some .string) (hb:w.heap[mb]? =some (.map es clk)) (hks:qhi es):
 (∃e∈es.toList,e.key= .string k∧(Instr.lookup mty (.map (some mb)) (.string k) true).run P w= .ok (.tuple #[e.val,.bool true]) w∧(Instr.lookup mty (.map (some mb)) (.string k) false).run P w= .ok e.val w)∨
 ((∀e∈es.toList,e.key≠.string k)∧∀z,(zeroValue et).run P w= .ok z w→(Instr.lookup mty (.map (some mb)) (.string k) true).run P w= .ok (.tuple #[z,.bool false]) w):=by
 have hik:IsKey .string (.string k):=trivial;rcases findNow_spec hik es.toList 0 hks.isKey with ⟨h1,h2⟩|⟨j,e,h1,h2,h3⟩
 ·refine .inr ⟨h2,fun z hz=> ?_⟩;have hck:(Instr.checkKey es.isEmpty 10000 kt (.string k)).run P w= .ok () w:=MapKept.run_checkKey hk hik _ 9999;simp [Instr.lookup,run_underlying hu,MapKept.run_getObj_map hb,hck,MapKept.run_findKey hk h1,hz,Result.andThen]
 ·have hck:(Instr.checkKey es.isEmpty 10000 kt (.string k)).run P w= .ok () w:=MapKept.run_checkKey hk hik _ 9999;refine .inl ⟨e,List.mem_of_getElem? h2,h3,?_,?_⟩
  ·simp [Instr.lookup,run_underlying hu,MapKept.run_getObj_map hb,hck,MapKept.run_findKey hk h1,Result.andThen]
  ·simp [Instr.lookup,run_underlying hu,MapKept.run_getObj_map hb,hck,MapKept.run_findKey hk h1,Result.andThen]
def putO (w:World) (b:Nat) (o:Obj):World:={w with heap:=w.heap.setIfInBounds b o}
theorem ykq {P:Program} {w:World} {mty kt et:TypeId} {mb clk:Nat} {es:Array MapEntry} {k:ByteArray} (v:Value) (hu:P.underlying mty=some (.map kt et)) (hk:P.underlying kt=some .string) (hb:w.heap[mb]? =some (.map es clk)) (hks:qhi es):
 ∃es' clk',(Instr.mapUpdate mty (.map (some mb)) (.string k) v).run P w= .ok () (putO w mb (.map es' clk'))∧(∀e∈es'.toList,e∈es.toList∨(e.key= .string k∧e.val=v))∧∃e∈es'.toList,e.key= .string k:=by
 have hik:IsKey .string (.string k):=trivial;have hck:(Instr.checkKey false 10000 kt (.string k)).run P w= .ok () w:=MapKept.run_checkKey hk hik _ 9999;rcases findNow_spec hik es.toList 0 hks.isKey with ⟨h1,h2⟩|⟨j,e,h1,h2,h3⟩
 ·refine ⟨es.push ⟨.string k,v,clk⟩,clk+1,?_,fun e he=> ?_,⟨.string k,v,clk⟩,by simp,rfl⟩
  ·simp [Instr.mapUpdate,run_underlying hu,MapKept.run_getObj_map hb,hck,MapKept.run_findKey hk h1,MapKept.run_setObj_map _ hb,Result.andThen,putO]
  ·rw [Array.toList_push,List.mem_append,List.mem_singleton] at he;rcases he with he|rfl
   ·exact .inl he
   ·exact .inr ⟨rfl,rfl⟩
 ·have hj:es[j]? =some e:=by simpa using h2
  have hlt:j<es.size:=(Array.getElem?_eq_some_iff.1 hj).1;have hje:es[j]=e:=(Array.getElem?_eq_some_iff.1 hj).2;refine ⟨es.modify j fun x=>{x with key:=.string k,val:=v},clk,?_,fun x hx=> ?_,{e with key:=.string k,val:=v},?_,rfl⟩
  ·simp [Instr.mapUpdate,run_underlying hu,MapKept.run_getObj_map hb,hck,MapKept.run_findKey hk h1,hj,h3,MapKept.run_keyThatStays hik,MapKept.run_setObj_map _ hb,Result.andThen,putO]
  ·obtain ⟨i,hi⟩:=List.mem_iff_getElem?.1 hx;have hi':(es.modify j fun x=>{x with key:=.string k,val:=v})[i]? =some x:=by rw [←Array.getElem?_toList];exact hi
   rw [Array.getElem?_modify] at hi';split at hi'
   ·cases hc:es[i]? with
    |none=>rw [hc] at hi';cases hi'
    |some y=>rw [hc] at hi';cases hi';exact .inr ⟨rfl,rfl⟩
   ·exact .inl (List.mem_iff_getElem?.2 ⟨i,by simpa using hi'⟩)
  ·refine List.mem_iff_getElem?.2 ⟨j,?_⟩;have:(es.modify j fun x=>{x with key:=.string k,val:=v})[j]? =some {e with key:=.string k,val:=v}:=by rw [Array.getElem?_modify,if_pos rfl,hj];rfl
   rw [Array.getElem?_toList];exact this
attribute [local go_sem] Oper.semAt_some
structure Els (F:Nat→Prop) (w:World) (t:Ty) (ys:List t.den) (news:List Value):Prop where
 len:news.length=ys.length*t.sz
 one:∀v∈news,v.oneCell'=true
 el:∀i x,ys[i]? =some x→∃ds,Cl F w t x ds∧∀j z,ds[j]? =some z→news[i*t.sz+j]? =some z
theorem qed [Dfr] {P:Program} {dT sT ty e:TypeId} {t:Ty} {w:World} {F:Nat→Prop} {ys:List t.den} {v:Value} (hu:P.underlying dT=some (.slice e)) (hs:(P.info? e).map (·.size)=some t.sz) (hv:Cl F w (.slice e t) ys [v]):
 ∃news,Els F w t ys news∧∀(W:World),(∀b,b<w.heap.size→W.heap[b]? =w.heap[b]?)→∀(g o dLen dCap tid:Nat) (cur:Array Value),W.heap[g]? =some (.cells cur tid (0,0))→ys.length≤dLen→o+ys.length*t.sz≤cur.size→
  (Builtin.copy_ #[dT,sT] ty #[.slice (some ⟨g,o,none⟩) dLen dCap,v]).run P W= .ok (goInt ys.length) (W.setRow g (cur.toList.take o++news++cur.toList.drop (o+news.length)).toArray):=by
 rw [Cl] at hv;obtain ⟨A,c,hvv,hc,hrow⟩:=hv;obtain rfl:v= .slice A ys.length c:=by simpa using hvv
 cases hq:P.info? e with
 |none=>simp [hq] at hs
 |some i=>
  have hi:i.size=t.sz:=by simpa [hq] using hs
  rcases hrow with rfl|⟨a,rfl,hF,hrow⟩
  ·refine ⟨[],⟨by simp,fun v h=>(by cases h),fun i x h=>(by cases h)⟩,fun W hW g o dLen dCap tid cur hg hle hfit=> ?_⟩;have hst:=run_storeCells_at P g o tid [] 0 cur W hg (by simpa using hfit) (fun v h=>by cases h);have hl0:∀a:Addr,(loadCells a 0).run P W= .ok #[] W:=fun a=>by
    have:=run_loadCells_list (P:=P) W a [] (fun j v h=>by simp at h)
    simpa using this
   cases A with
   |none=>simp [Builtin.copy_,run_underlying hu,Builtin.lenOf,Builtin.firstCells,sizeOf,typeInfo,hq,hi,hst]
   |some a=>simp [Builtin.copy_,run_underlying hu,Builtin.lenOf,Builtin.firstCells,sizeOf,typeInfo,hq,hi,hst,hl0]
  ·obtain ⟨news,hn⟩:=yst hrow;refine ⟨news,⟨hn.len,hn.one,hn.el⟩,fun W hW g o dLen dCap tid cur hg hle hfit=> ?_⟩;have hmin:Nat.min ys.length dLen=ys.length:=Nat.min_eq_left hle;have hl:=run_loadCells_list (P:=P) W a news (fun j v hj=>by have h1:=hn.cell j v hj;have h2:=World.block_lt_of_cell? w _ h1;rw [←h1];exact World.cell?_of_block (hW _ h2));rw [hn.len] at hl;have hst:=run_storeCells_at P g o tid news 0 cur W hg (by rw [hn.len];simpa using hfit) hn.one;simp [Builtin.copy_,run_underlying hu,Builtin.lenOf,Builtin.firstCells,sizeOf,typeInfo,hq,hi,hmin,hl,hst]
abbrev NdY:Ty:=.pair (.int .i64) (.pair .str (.int .i64))
abbrev rowT:Nat:=22
theorem ycz [Dfr] [zfm] {F:Nat→Prop} {w:World} {xs:List Nd} {A:Option Addr} {cap:Nat} {lo hi:Option Value} {l h:Int} (hv:Cl F w (.slice 68 NdY) xs [.slice A xs.length cap])
 (hl:ymj lo l 0) (hh:ymj hi h xs.length) (h0:0≤l) (h1:l≤h) (h2:h≤(xs.length:Int)):
 ∃v,(∀W,(Instr.sliceAt rowT (.slice A xs.length cap) lo hi none).run Tryz.prog W= .ok v W)∧Cl F w (.slice 68 NdY) (cut xs l h) [v]:=by
 have hc:xs.length≤cap:=by have:=hv;rw [Cl] at this;obtain ⟨a,c,e,hc,_⟩:=this;simp only [List.cons.injEq,Value.slice.injEq,and_true,true_and] at e;omega
 have ht:=tab.types.ti rowT _ rfl;obtain ⟨ie,hie,hsz,_⟩:=(tab.types.ti 68 _ rfl).info;obtain ⟨M,hr,hM,hM2⟩:=qbf ht rfl hie A hl hh (.inl rfl) h0 h1 h2 hc w;have hMc:M=cap:=by
  rcases hM2 with ⟨_,h⟩|⟨h,_⟩
  ·exact h
  ·exact absurd rfl h
 refine ⟨_,fun W=> ?_,Cl.cut (by simp [zbe];omega) hv hM⟩;obtain ⟨M',hr',_,hM2'⟩:=qbf ht rfl hie A hl hh (.inl rfl) h0 h1 h2 hc W;have hMc':M'=cap:=by
  rcases hM2' with ⟨_,h⟩|⟨h,_⟩
  ·exact h
  ·exact absurd rfl h
 rw [hr',hMc',←hMc,hsz];rfl
theorem yxb [Dfr] [zfm] (g T k:Nat) (hk:k≤T) (W:World):(Instr.sliceAt rowT (.slice (some ⟨g,0,none⟩) T T) (some (.int .i64 (k:Int))) none none).run Tryz.prog W= .ok (.slice (if T=k then some ⟨g,0,none⟩ else some ⟨g,k*3,none⟩) (T-k) (T-k)) W:=by
 have ht:=tab.types.ti rowT _ rfl;obtain ⟨ie,hie,hsz,_⟩:=(tab.types.ti 68 _ rfl).info;obtain ⟨M,hr,hM,hM2⟩:=qbf ht rfl hie (some ⟨g,0,none⟩) (lo:=some (.int .i64 (k:Int))) (hi:=none) (mx:=none) (l:=(k:Int)) (h:=(T:Int)) (len:=T) (cap:=T) (.inr ⟨_,rfl⟩) (.inl ⟨rfl,rfl⟩) (.inl rfl) (by omega) (by omega) (by omega) (Nat.le_refl _) W;have hMc:M=T:=by
  rcases hM2 with ⟨_,h⟩|⟨h,_⟩
  ·exact h
  ·exact absurd rfl h
 subst hMc;rw [hr,hsz];simp only [Int.toNat_natCast,Option.map_some]
 congr 3
 rw [zjf,Nat.zero_add]
theorem yia [Dfr] {P:Program} {dT sT ty g T k tid:Nat} {W:World} {cur:Array Value} {n:Nat} {v:Value} {news:List Value} (hg:W.heap[g]? =some (.cells cur tid (0,0))) (hc:cur.size=T*3) (hn:news.length=n*3) (hk:k≤T) (hle:n≤T-k)
 (h:∀(o dLen dCap tid:Nat) (cur:Array Value),W.heap[g]? =some (.cells cur tid (0,0))→n≤dLen→o+n*3≤cur.size→
  (Builtin.copy_ #[dT,sT] ty #[.slice (some ⟨g,o,none⟩) dLen dCap,v]).run P W= .ok (goInt n) (W.setRow g (cur.toList.take o++news++cur.toList.drop (o+news.length)).toArray)):
 (Builtin.copy_ #[dT,sT] ty #[.slice (if T=k then some ⟨g,0,none⟩ else some ⟨g,k*3,none⟩) (T-k) (T-k),v]).run P W= .ok (goInt n) (W.setRow g (cur.toList.take (k*3)++news++cur.toList.drop (k*3+news.length)).toArray):=by
 by_cases e:T=k
 ·rw [if_pos e];have h0:n=0:=by omega
  subst h0;have hnil:news=[]:=List.eq_nil_of_length_eq_zero (by omega);subst hnil;rw [h 0 _ _ tid cur hg (Nat.zero_le _) (by omega)];simp
 ·rw [if_neg e];exact h (k*3) _ _ tid cur hg hle (by omega)
theorem three [Dfr] {α:Type} (Z a b c:List α) (h:Z.length=a.length+b.length+c.length):
 let L1:=Z.take 0++a++Z.drop (0+a.length)
 let L2:=L1.take a.length++b++L1.drop (a.length+b.length)
 L2.take (a.length+b.length)++c++L2.drop (a.length+b.length+c.length)=a++b++c:=by
 intro L1 L2;have h1:L1=a++Z.drop a.length:=by simp [L1]
 have h2:L2=a++b++Z.drop (a.length+b.length):=by simp only [L2,h1];rw [List.take_left' rfl,←List.drop_drop,List.drop_left' rfl,List.drop_drop]
 rw [h2,List.take_left' (by simp),List.drop_eq_nil_of_le (by simp;omega),List.append_nil]
theorem qxh [Dfr] [zfm] {l:List Nd} {r:Int} (h:zmq l=some r) {W:World} {F:Nat→Prop} {v:Value} (hF:∀b,F b→b<W.heap.size) (hg:zfe E F W) (hc:Cl F W (.slice 68 NdY) l [v]):
 Calls Tryz.prog 128 #[v] W fun e w'=>e= .returned (.int .i64 r)∧Kept (fun _=>False) W w':=by
 obtain ⟨q,hq⟩:=((yff l).iff _).1 h;obtain ⟨hf,hct⟩:=zqd qwp q 128 l r hq;have hFr:∀b,Fr.F ⟨fun _=>none,fun _=>none⟩ F b→F b:=fun b h=>by
  rcases h with h|⟨d,h⟩|⟨n,l,h⟩
  ·exact h
  ·cases h
  ·cases h
 have hst:Step F (Fr.F ⟨fun _=>none,fun _=>none⟩ F) W W:=⟨fun _ _ _=>rfl,fun b h=>.inl (hFr b h)⟩;refine (hct W F (fun _=>False) ⟨fun _=>none,fun _=>none⟩ [v] ⟨.cons (Cl.step hst hc) .nil,fun _=>rfl,fun n b l h=>(by cases h),fun n n' b l l' h=>(by cases h),fun b h=>⟨hF b h,fun h=>h⟩,hg.step hst⟩).mono ?_;rintro e w' ⟨v,rfl,hk,hr⟩;obtain ⟨T,hT⟩:=hr 0;have hv:v= .int .i64 r:=hT.rel;exact ⟨by rw [hv],hk⟩
theorem qpd [Dfr] [zfm] (n:Nat) (hn:n≤5000000):∃Z:Array Value,Z.size=n*3∧∀W:World,(Instr.makeSlice rowT (.int .i64 (n:Int)) (.int .i64 (n:Int))).run Tryz.prog W= .ok (.slice (some ⟨W.heap.size,0,none⟩) n n) (W.alloc (.cells Z 68)):=by obtain ⟨ie,hie,hsz,hb,z,hz,hzs,_⟩:=(tab.types.ti 68 _ rfl).info;refine ⟨madeCells z.cells (n*3),by simp [madeCells],fun W=> ?_⟩;have h:=run_makeSlice W (P:=Tryz.prog) rowT 68 ie z Tryz.underlying22 hie hz .i64 .i64 (n:Int) (n:Int) (by omega) (Int.le_refl _) (by rw [hsz];show (n:Int).toNat*3≤_;omega) (by rw [hb];show ((32:Nat):Int)*(n:Int)≤_;omega) (by omega);rw [hsz] at h;exact h
theorem Els.append [Dfr] {F:Nat→Prop} {w:World} {t:Ty} {xs ys:List t.den} {a b:List Value} (ha:Els F w t xs a) (hb:Els F w t ys b):Els F w t (xs++ys) (a++b):=by
 refine ⟨by rw [List.length_append,List.length_append,ha.len,hb.len,Nat.add_mul],fun v hv=> ?_,fun i x hi=> ?_⟩
 ·rcases List.mem_append.1 hv with h|h
  ·exact ha.one v h
  ·exact hb.one v h
 ·rw [List.getElem?_append] at hi;split at hi
  ·rename_i hlt;obtain ⟨ds,h1,h2⟩:=ha.el i x hi;refine ⟨ds,h1,fun j z hj=> ?_⟩;have:=h2 j z hj;have hl:=(List.getElem?_eq_some_iff.1 this).1;rw [List.getElem?_append_left hl];exact this
  ·rename_i hge;obtain ⟨ds,h1,h2⟩:=hb.el _ x hi;refine ⟨ds,h1,fun j z hj=> ?_⟩;have:=h2 j z hj;have hm:xs.length*t.sz≤i*t.sz:=Nat.mul_le_mul_right _ (by omega);rw [List.getElem?_append_right (by rw [ha.len];omega),ha.len,←this]
   congr 1
   rw [Nat.sub_mul];omega
def yik (F:Nat→Prop) (w:World) (out:List Nd) (e:Ending) (w':World):Prop:=
 ∃g,∃cur:Array Value,e= .returned (.slice (some ⟨g,0,none⟩) out.length out.length)∧Kept (fun _=>False) w w'∧w.heap.size≤g∧w'.heap[g]? =some (.cells cur 68 (0,0))∧Els F w NdY out cur.toList
attribute [local go_sem] Oper.semAt_some
set_option maxHeartbeats 3200000 in
theorem yqa [Dfr] [zfm] (w:World) (F:Nat→Prop) (l x:List Nd) (s0 s2:Option Addr) (c0 c2 k n:Nat) (hF:∀b,F b→b<w.heap.size) (hg:zfe E F w)
 (hl:Cl F w (.slice 68 NdY) l [.slice s0 l.length c0]) (hx:Cl F w (.slice 68 NdY) x [.slice s2 x.length c2]) (hk:k<l.length) (hn:zmq (l.drop k)=some (n:Int)) (hn1:0<n) (hn2:k+n≤l.length) (hll:l.length≤1000000) (hxl:x.length≤1000000):
 Calls Tryz.prog 72 #[.slice s0 l.length c0,.int .i64 (k:Int),.slice s2 x.length c2] w (yik F w (l.take k++x++l.drop (k+n))):=by
 have h0:(0:Int)≤(k:Int):=by omega
 have h1:(k:Int)<(l.length:Int):=by omega
 have hs:(Tryz.prog.info? 68).map (·.size)=some NdY.sz:=by kernel_rfl
 obtain ⟨vA,hA,clA⟩:=ycz hl (lo:=some (.int .i64 (k:Int))) (hi:=none) (l:=(k:Int)) (h:=(l.length:Int)) (.inr ⟨_,rfl⟩) (.inl ⟨rfl,rfl⟩) h0 (by omega) (Int.le_refl _);obtain ⟨vB,hB,clB⟩:=ycz hl (lo:=none) (hi:=some (.int .i64 (k:Int))) (l:=0) (h:=(k:Int)) (.inl ⟨rfl,rfl⟩) (.inr ⟨_,rfl⟩) (Int.le_refl _) h0 (by omega);obtain ⟨vC,hC,clC⟩:=ycz hl (lo:=some (.int .i64 ((k:Int)+(n:Int)))) (hi:=none) (l:=(k:Int)+(n:Int)) (h:=(l.length:Int)) (.inr ⟨_,rfl⟩) (.inl ⟨rfl,rfl⟩) (by omega) (by omega) (Int.le_refl _);have eA:cut l (k:Int) (l.length:Int)=l.drop k:=by rw [zrb];simp
 have eB:cut l 0 (k:Int)=l.take k:=by rw [show (0:Int)=((0:Nat):Int) from rfl,zrb];simp
 have eC:cut l ((k:Int)+(n:Int)) (l.length:Int)=l.drop (k+n):=by rw [←Int.natCast_add,zrb];simp
 rw [eA] at clA;rw [eB] at clB;rw [eC] at clC;obtain ⟨Z,hZ,hmk⟩:=qpd (l.length-n+x.length) (by omega);have e2:((l.length-n+x.length:Nat):Int)=((l.length-n:Nat):Int)+(x.length:Int):=by omega
 rw [e2] at hmk;obtain ⟨nB,EB,hcB⟩:=qed (P:=Tryz.prog) (dT:=rowT) (sT:=rowT) (ty:=3) Tryz.underlying22 hs clB;obtain ⟨nX,EX,hcX⟩:=qed (P:=Tryz.prog) (dT:=rowT) (sT:=rowT) (ty:=3) Tryz.underlying22 hs hx;obtain ⟨nC,EC,hcC⟩:=qed (P:=Tryz.prog) (dT:=rowT) (sT:=rowT) (ty:=3) Tryz.underlying22 hs clC;have w1:IntKind.i64.wrap ((l.length:Int)-(n:Int))=((l.length-n:Nat):Int):=by rw [show ((l.length:Int)-(n:Int))=((l.length-n:Nat):Int) by omega];exact qhq (by omega)
 have w2:IntKind.i64.wrap (((l.length-n:Nat):Int)+(x.length:Int))=((l.length-n:Nat):Int)+(x.length:Int):=by rw [←e2];exact qhq (by omega)
 have w3:IntKind.i64.wrap ((k:Int)+(x.length:Int))=(k:Int)+(x.length:Int):=by rw [←Int.natCast_add];exact qhq (by omega)
 have w4:IntKind.i64.wrap ((k:Int)+(n:Int))=(k:Int)+(n:Int):=by rw [←Int.natCast_add];exact qhq (by omega)
 have hnz:¬(n:Int)=0:=by omega
 go_enter Tryz.func72,Tryz.ntmps72;go_wp2_with (go_at_fn 128);refine (qxh hn hF hg clA).mono ?_;rintro e W ⟨rfl,hkept⟩;obtain ⟨vO,hvO,hmO⟩:∃vO,Value.slice (some ⟨W.heap.size,0,none⟩) (l.length-n+x.length) (l.length-n+x.length)=vO∧
  (Instr.makeSlice rowT (.int .i64 (((l.length-n:Nat):Int)+(x.length:Int))) (.int .i64 (((l.length-n:Nat):Int)+(x.length:Int)))).run Tryz.prog W= .ok vO (W.alloc (.cells Z 68)):=⟨_,rfl,hmk W⟩
 clear hmk;obtain ⟨d1,hd1,hD1⟩:∃d1,Value.slice (if l.length-n+x.length=k then some ⟨W.heap.size,0,none⟩ else some ⟨W.heap.size,k*3,none⟩) (l.length-n+x.length-k) (l.length-n+x.length-k)=d1∧
  ∀W',(Instr.sliceAt rowT vO (some (.int .i64 (k:Int))) none none).run Tryz.prog W'= .ok d1 W':=⟨_,rfl,fun W'=>by rw [←hvO];exact yxb _ _ _ (by omega) W'⟩
 obtain ⟨d2,hd2,hD2⟩:∃d2,Value.slice (if l.length-n+x.length=k+x.length then some ⟨W.heap.size,0,none⟩ else some ⟨W.heap.size,(k+x.length)*3,none⟩) (l.length-n+x.length-(k+x.length)) (l.length-n+x.length-(k+x.length))=d2∧
  ∀W',(Instr.sliceAt rowT vO (some (.int .i64 ((k:Int)+(x.length:Int)))) none none).run Tryz.prog W'= .ok d2 W':=⟨_,rfl,fun W'=>by rw [←hvO,←Int.natCast_add];exact yxb _ _ _ (by omega) W'⟩
 have lB:nB.length=k*3:=by rw [EB.len,List.length_take,Nat.min_eq_left (by omega)];rfl
 have lX:nX.length=x.length*3:=EX.len;have lC:nC.length=(l.length-(k+n))*3:=by rw [EC.len,List.length_drop];rfl
 have tB:(l.take k).length=k:=by rw [List.length_take,Nat.min_eq_left (by omega)]
 have tC:(l.drop (k+n)).length=l.length-(k+n):=List.length_drop;go_wp2;generalize hW1:W.alloc (.cells Z 68)=W1;have k1:Kept (fun _=>False) w W1:=by rw [←hW1];exact hkept.alloc _
 have g1:W1.heap[W.heap.size]? =some (.cells Z 68 (0,0)):=by rw [←hW1];simp [-World.alloc_eq,World.alloc]
 have hC1:(Builtin.copy_ #[rowT,rowT] 3 #[vO,vB]).run Tryz.prog W1= .ok (goInt (l.take k).length) (W1.setRow W.heap.size (Z.toList.take 0++nB++Z.toList.drop (0+nB.length)).toArray):=by rw [←hvO];exact hcB W1 (fun b hb=>k1.block b hb (fun h=>h)) W.heap.size 0 _ _ _ Z g1 (by rw [tB];omega) (by rw [tB,hZ];show 0+k*3≤_;omega)
 rw [hC1];generalize hW2:W1.setRow W.heap.size _=W2;have k2:Kept (fun _=>False) w W2:=by rw [←hW2];exact k1.setRow (.inl hkept.size) _
 have g2:W2.heap[W.heap.size]? =some (.cells (Z.toList.take 0++nB++Z.toList.drop (0+nB.length)).toArray 68 (0,0)):=by rw [←hW2];exact setRow_heap W1 W.heap.size Z _ 68 _ g1
 go_wp2;generalize hY1:(Z.toList.take 0++nB++Z.toList.drop (0+nB.length)).toArray=Y1 at*;have z1:Y1.size=(l.length-n+x.length)*3:=by rw [←hY1];simp [lB];omega
 have hC2:(Builtin.copy_ #[rowT,rowT] 3 #[d1,.slice s2 x.length c2]).run Tryz.prog W2= .ok (goInt x.length) (W2.setRow W.heap.size (Y1.toList.take (k*3)++nX++Y1.toList.drop (k*3+nX.length)).toArray):=by rw [←hd1];exact yia g2 z1 lX (by omega) (by omega) fun o dLen dCap tid cur hc hle hfit=>hcX W2 (fun b hb=>k2.block b hb (fun h=>h)) W.heap.size o dLen dCap tid cur hc hle hfit
 rw [hC2];generalize hW3:W2.setRow W.heap.size _=W3;have k3:Kept (fun _=>False) w W3:=by rw [←hW3];exact k2.setRow (.inl hkept.size) _
 have g3:W3.heap[W.heap.size]? =some (.cells (Y1.toList.take (k*3)++nX++Y1.toList.drop (k*3+nX.length)).toArray 68 (0,0)):=by rw [←hW3];exact setRow_heap W2 W.heap.size Y1 _ 68 _ g2
 generalize hY2:(Y1.toList.take (k*3)++nX++Y1.toList.drop (k*3+nX.length)).toArray=Y2 at*;have z2:Y2.size=(l.length-n+x.length)*3:=by rw [←hY2];simp [lX,z1];omega
 have hC3:∀W':World,W'.heap=W3.heap→(Builtin.copy_ #[rowT,rowT] 3 #[d2,vC]).run Tryz.prog W'= .ok (goInt (l.drop (k+n)).length) (W'.setRow W.heap.size (Y2.toList.take ((k+x.length)*3)++nC++Y2.toList.drop ((k+x.length)*3+nC.length)).toArray):=fun W' hW'=>by rw [←hd2];exact yia (by rw [hW'];exact g3) z2 EC.len (by omega) (by rw [tC];omega) fun o dLen dCap tid cur hc hle hfit=>hcC W' (fun b hb=>by rw [hW'];exact k3.block b hb (fun h=>h)) W.heap.size o dLen dCap tid cur hc hle hfit
 have hC4:=hC3 W3.drew rfl;clear hC3;go_wp2;go_region_held3 (fun w'=>True) (trivial) (fail);go_wp2;go_ret;have hlen:(l.take k++x++l.drop (k+n)).length=l.length-n+x.length:=by rw [List.length_append,List.length_append,tB,tC];omega
 have k4:Kept (fun _=>False) w (W3.drew.setRow W.heap.size (Y2.toList.take ((k+x.length)*3)++nC++Y2.toList.drop ((k+x.length)*3+nC.length)).toArray):=k3.drew.setRow (.inl hkept.size) _;refine ⟨W.heap.size,(Y2.toList.take ((k+x.length)*3)++nC++Y2.toList.drop ((k+x.length)*3+nC.length)).toArray,?_,?_,hkept.size,?_,?_⟩
 ·rw [hlen,hvO];rfl
 ·simpa [lC] using k4
 ·have:=setRow_heap W3.drew W.heap.size Y2 (Y2.toList.take ((k+x.length)*3)++nC++Y2.toList.drop ((k+x.length)*3+nC.length)).toArray 68 (0,0) g3
  simpa [lC] using this
 ·have h3:=three Z.toList nB nX nC (by rw [Array.length_toList,hZ,lB,lX,lC];omega);have hY:(Y2.toList.take ((k+x.length)*3)++nC++Y2.toList.drop ((k+x.length)*3+nC.length)).toArray.toList=nB++nX++nC:=by rw [←h3,←hY2,←hY1];simp only [List.toList_toArray];rw [show (k+x.length)*3=nB.length+nX.length by rw [lB,lX];omega,show k*3=nB.length by rw [lB]]
  rw [hY];exact (EB.append EX).append EC
set_option maxHeartbeats 3200000 in
theorem ykf [Dfr] [zfm] (w:World) (F:Nat→Prop) (l:List Nd) (s0 s2:Option Addr) (c0 c2 xn:Nat) (k:Int)
 (hl:Cl F w (.slice 68 NdY) l [.slice s0 l.length c0]) (hk:k<0) (hll:l.length≤1000000):
 Calls Tryz.prog 72 #[.slice s0 l.length c0,.int .i64 k,.slice s2 xn c2] w (yik F w l):=by
 have h0:¬(0:Int)≤k:=by omega
 have hs:(Tryz.prog.info? 68).map (·.size)=some NdY.sz:=by kernel_rfl
 obtain ⟨Z,hZ,hmk⟩:=qpd l.length (by omega);obtain ⟨nB,EB,hcB⟩:=qed (P:=Tryz.prog) (dT:=rowT) (sT:=rowT) (ty:=3) Tryz.underlying22 hs hl;have lB:nB.length=l.length*3:=EB.len;have hkept:=Kept.refl (fun _=>False) w;obtain ⟨vO,hvO,hmO⟩:∃vO,Value.slice (some ⟨w.heap.size,0,none⟩) l.length l.length=vO∧
  (Instr.makeSlice rowT (.int .i64 (l.length:Int)) (.int .i64 (l.length:Int))).run Tryz.prog w= .ok vO (w.alloc (.cells Z 68)):=⟨_,rfl,hmk w⟩
 clear hmk;go_enter Tryz.func72,Tryz.ntmps72;go_wp2;generalize hW1:w.alloc (.cells Z 68)=W1;have k1:Kept (fun _=>False) w W1:=by rw [←hW1];exact hkept.alloc _
 have g1:W1.heap[w.heap.size]? =some (.cells Z 68 (0,0)):=by rw [←hW1];simp [-World.alloc_eq,World.alloc]
 have hY:(Z.toList.take 0++nB++Z.toList.drop (0+nB.length)).toArray=nB.toArray:=by rw [List.drop_eq_nil_of_le (by rw [Array.length_toList,hZ,lB];omega)];simp
 have hC1:(Builtin.copy_ #[rowT,rowT] 3 #[vO,.slice s0 l.length c0]).run Tryz.prog W1= .ok (goInt l.length) (W1.setRow w.heap.size nB.toArray):=by have h:=hcB W1 (fun b hb=>k1.block b hb (fun h=>h)) w.heap.size 0 l.length l.length _ Z g1 (Nat.le_refl _) (by rw [hZ];show 0+l.length*3≤_;omega);rw [hY] at h;rw [←hvO];exact h
 rw [hC1];go_wp2;go_ret;refine ⟨w.heap.size,nB.toArray,by rw [hvO];rfl,k1.setRow (.inl hkept.size) _,hkept.size,setRow_heap W1 w.heap.size Z _ 68 _ g1,by rw [List.toList_toArray];exact EB⟩
set_option maxHeartbeats 3200000 in
theorem ykg [Dfr] [zfm] (w:World) (F:Nat→Prop) (l:List Nd) (s0 s2:Option Addr) (c0 c2 xn:Nat) (k:Int)
 (hl:Cl F w (.slice 68 NdY) l [.slice s0 l.length c0]) (hk:(l.length:Int)≤k) (hll:l.length≤1000000):
 Calls Tryz.prog 72 #[.slice s0 l.length c0,.int .i64 k,.slice s2 xn c2] w (yik F w l):=by
 have h0:(0:Int)≤k:=by omega
 have h0b:¬k<0:=by omega
 have h1:¬k<(l.length:Int):=by omega
 have hs:(Tryz.prog.info? 68).map (·.size)=some NdY.sz:=by kernel_rfl
 obtain ⟨Z,hZ,hmk⟩:=qpd l.length (by omega);obtain ⟨nB,EB,hcB⟩:=qed (P:=Tryz.prog) (dT:=rowT) (sT:=rowT) (ty:=3) Tryz.underlying22 hs hl;have lB:nB.length=l.length*3:=EB.len;have hkept:=Kept.refl (fun _=>False) w;obtain ⟨vO,hvO,hmO⟩:∃vO,Value.slice (some ⟨w.heap.size,0,none⟩) l.length l.length=vO∧
  (Instr.makeSlice rowT (.int .i64 (l.length:Int)) (.int .i64 (l.length:Int))).run Tryz.prog w= .ok vO (w.alloc (.cells Z 68)):=⟨_,rfl,hmk w⟩
 clear hmk;go_enter Tryz.func72,Tryz.ntmps72;go_wp2;generalize hW1:w.alloc (.cells Z 68)=W1;have k1:Kept (fun _=>False) w W1:=by rw [←hW1];exact hkept.alloc _
 have g1:W1.heap[w.heap.size]? =some (.cells Z 68 (0,0)):=by rw [←hW1];simp [-World.alloc_eq,World.alloc]
 have hY:(Z.toList.take 0++nB++Z.toList.drop (0+nB.length)).toArray=nB.toArray:=by rw [List.drop_eq_nil_of_le (by rw [Array.length_toList,hZ,lB];omega)];simp
 have hC1:(Builtin.copy_ #[rowT,rowT] 3 #[vO,.slice s0 l.length c0]).run Tryz.prog W1= .ok (goInt l.length) (W1.setRow w.heap.size nB.toArray):=by have h:=hcB W1 (fun b hb=>k1.block b hb (fun h=>h)) w.heap.size 0 l.length l.length _ Z g1 (Nat.le_refl _) (by rw [hZ];show 0+l.length*3≤_;omega);rw [hY] at h;rw [←hvO];exact h
 rw [hC1];go_wp2;go_ret;refine ⟨w.heap.size,nB.toArray,by rw [hvO];rfl,k1.setRow (.inl hkept.size) _,hkept.size,setRow_heap W1 w.heap.size Z _ 68 _ g1,by rw [List.toList_toArray];exact EB⟩
set_option maxHeartbeats 3200000 in
theorem yke [Dfr] [zfm] (w:World) (F:Nat→Prop) (l:List Nd) (s0 s2:Option Addr) (c0 c2 xn k:Nat) (hF:∀b,F b→b<w.heap.size) (hg:zfe E F w)
 (hl:Cl F w (.slice 68 NdY) l [.slice s0 l.length c0]) (hk:k<l.length) (hn:zmq (l.drop k)=some 0) (hll:l.length≤1000000):
 Calls Tryz.prog 72 #[.slice s0 l.length c0,.int .i64 (k:Int),.slice s2 xn c2] w (yik F w l):=by
 have h0:(0:Int)≤(k:Int):=by omega
 have h1:(k:Int)<(l.length:Int):=by omega
 obtain ⟨vA,hA,clA⟩:=ycz hl (lo:=some (.int .i64 (k:Int))) (hi:=none) (l:=(k:Int)) (h:=(l.length:Int)) (.inr ⟨_,rfl⟩) (.inl ⟨rfl,rfl⟩) h0 (by omega) (Int.le_refl _);have eA:cut l (k:Int) (l.length:Int)=l.drop k:=by rw [zrb];simp
 rw [eA] at clA;have hs:(Tryz.prog.info? 68).map (·.size)=some NdY.sz:=by kernel_rfl
 obtain ⟨Z,hZ,hmk⟩:=qpd l.length (by omega);obtain ⟨nB,EB,hcB⟩:=qed (P:=Tryz.prog) (dT:=rowT) (sT:=rowT) (ty:=3) Tryz.underlying22 hs hl;have lB:nB.length=l.length*3:=EB.len;go_enter Tryz.func72,Tryz.ntmps72;go_wp2_with (go_at_fn 128);refine (qxh hn hF hg clA).mono ?_;rintro e W ⟨rfl,hkept⟩;obtain ⟨vO,hvO,hmO⟩:∃vO,Value.slice (some ⟨W.heap.size,0,none⟩) l.length l.length=vO∧
  (Instr.makeSlice rowT (.int .i64 (l.length:Int)) (.int .i64 (l.length:Int))).run Tryz.prog W= .ok vO (W.alloc (.cells Z 68)):=⟨_,rfl,hmk W⟩
 clear hmk;go_wp2;generalize hW1:W.alloc (.cells Z 68)=W1;have k1:Kept (fun _=>False) w W1:=by rw [←hW1];exact hkept.alloc _
 have g1:W1.heap[W.heap.size]? =some (.cells Z 68 (0,0)):=by rw [←hW1];simp [-World.alloc_eq,World.alloc]
 have hY:(Z.toList.take 0++nB++Z.toList.drop (0+nB.length)).toArray=nB.toArray:=by rw [List.drop_eq_nil_of_le (by rw [Array.length_toList,hZ,lB];omega)];simp
 have hC1:(Builtin.copy_ #[rowT,rowT] 3 #[vO,.slice s0 l.length c0]).run Tryz.prog W1= .ok (goInt l.length) (W1.setRow W.heap.size nB.toArray):=by have h:=hcB W1 (fun b hb=>k1.block b hb (fun h=>h)) W.heap.size 0 l.length l.length _ Z g1 (Nat.le_refl _) (by rw [hZ];show 0+l.length*3≤_;omega);rw [hY] at h;rw [←hvO];exact h
 rw [hC1];go_wp2;go_ret;refine ⟨W.heap.size,nB.toArray,by rw [hvO];rfl,k1.setRow (.inl hkept.size) _,hkept.size,setRow_heap W1 W.heap.size Z _ 68 _ g1,by rw [List.toList_toArray];exact EB⟩
end Go.Proofs.YtjolkdjkhekbnaaGreatDoor.Sv
