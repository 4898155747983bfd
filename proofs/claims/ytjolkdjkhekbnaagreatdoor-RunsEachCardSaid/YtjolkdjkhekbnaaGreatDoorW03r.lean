/- What the functions of package row compute: in plain words. -/
import Derived.Test.YtjolkdjkhekbnaaGreatDoorW03
namespace Go.Proofs.YtjolkdjkhekbnaaGreatDoor.Sv
open Go Go.Sv Go.Rd
theorem zkc [Dfr] (k:Int):zjb k=some (arI k):=by
 rw [qrb]
 by_cases h1:k=1; · subst h1;rfl
 by_cases h2:k=2; · subst h2;rfl
 by_cases h3:k=3; · subst h3;rfl
 by_cases h4:k=4; · subst h4;rfl
 by_cases h5:k=5; · subst h5;rfl
 by_cases h6:k=6; · subst h6;rfl
 by_cases h7:k=7; · subst h7;rfl
 by_cases h8:k=8; · subst h8;rfl
 by_cases h9:k=9; · subst h9;rfl
 by_cases h10:k=10; · subst h10;rfl
 by_cases h11:k=11; · subst h11;rfl
 by_cases h12:k=12; · subst h12;rfl
 by_cases h13:k=13; · subst h13;rfl
 by_cases h14:k=14; · subst h14;rfl
 have e:∀c:Int,¬k=c→(k==c)=false:=fun c h=>beq_false_of_ne h
 simp only [e _ h1,e _ h2,e _ h3,e _ h4,e _ h5,e _ h6,e _ h7,e _ h8,e _ h9,e _ h10,e _ h11,e _ h12,e _ h13,e _ h14,cond_false]
 simp [arI,ar, *]
theorem qzv [Dfr] (xs ys:List Nd) (hx:xs.length≤4611686018427387904):qns xs ys=some (decide (xs=ys)):=by
 rw [qun,zpt xs ys hx]
 rfl
def scan:Nat→List Nd→Option Nat
 |_,[]=>none
 |k,n::l=>match ar n.1 with
  |none=>none
  |some m=>if k+m=1 then some 1 else (scan (k+m-1) l).map (· +1)
theorem qqp [Dfr] (k:Nat) (n:Nd) (l:List Nd):scan k (n::l)=match ar n.1 with
 |none=>none
 |some m=>if k+m=1 then some 1 else (scan (k+m-1) l).map (· +1):=rfl
theorem yum [Dfr]:∀(n:Nat) (l:List Nd) (k:Nat),l.length≤n→scan (k+1) l=match P l with
 |none=>none
 |some (t,r)=>if k=0 then some t.size else (scan k r).map (t.size+ ·):=by
 intro n
 induction n with
 |zero =>
  intro l k h
  have:l=[]:=List.eq_nil_of_length_eq_zero (by omega)
  subst this;rfl
 |succ n ih =>
  intro l k h
  cases l with
  |nil=>rfl
  |cons x l =>
   simp only [List.length_cons] at h
   rw [yqm,qqp]
   cases ha:ar x.1 with
   |none=>rfl
   |some m =>
    have hm:=yia ha
    rcases m with _|_|_|m
    ·simp only [Nat.add_zero]
     by_cases hk:k=0
     ·simp [hk,T.size]
     ·rw [if_neg (by omega)]
      simp only [hk,if_false,Nat.add_sub_cancel,T.size]
      congr 1;funext q;omega
    ·simp only
     rw [if_neg (by omega),show k+1+(0+1)-1=k+1 by omega,ih l k (by omega)]
     cases hp:P l with
     |none=>rfl
     |some q =>
      obtain ⟨a,r⟩:=q
      simp only
      by_cases hk:k=0
      ·simp [hk,T.size]
      ·simp only [hk,if_false,Option.map_map,T.size]
       congr 1;funext q;simp only [Function.comp];omega
    ·simp only
     rw [if_neg (by omega),show k+1+(0+1+1)-1=k+1+1 by omega,ih l (k+1) (by omega)]
     cases hp:P l with
     |none=>rfl
     |some q =>
      obtain ⟨a,r⟩:=q
      simp only
      rw [if_neg (by omega)]
      have hl:=congrArg List.length (zuf hp).2
      rw [List.length_append,T.zab] at hl
      rw [ih r k (by omega)]
      cases hp2:P r with
      |none=>rfl
      |some q2 =>
       obtain ⟨b,r2⟩:=q2
       simp only
       by_cases hk:k=0
       ·simp [hk,T.size]
       ·simp only [hk,if_false,Option.map_map,T.size]
        congr 1;funext q;simp only [Function.comp];omega
    ·omega
theorem qcb [Dfr] (l:List Nd) (y:Int) (hl:l.length≤1000000000000):∀(r:List Nd) (i k:Nat),l.drop i=r→1≤k→k+r.length*2≤4000000000000→zri y (k:Int) l (l.length:Int) (i:Int)=some (match scan k r with|some n=>(1,((i+n:Nat):Int))|none=>(0,y))
 |[],i,k,h,hk,hb=>by
  obtain ⟨h1,h2⟩:=drop_nil h
  rw [zvn]
  simp only [h2,cond_false,scan]
 |x::r,i,k,h,hk,hb=>by
  obtain ⟨h1,h2,h3,h4,h5,h6⟩:=zan h
  simp only [List.length_cons] at hb
  rw [zvn]
  simp only [h2,h3,h4,cond_true,zkc,Option.bind_some]
  rw [qqp]
  cases ha:ar x.1 with
  |none=>simp only [arI,ha];rfl
  |some m =>
   have hm:=yia ha
   have e1:arI x.1=(m:Int):=by simp [arI,ha]
   have e2:decide ((m:Int)<0)=false:=decide_eq_false (by omega)
   have e3:w64 ((k:Int)+w64 ((m:Int)-1))=((k+m-1:Nat):Int):=by
    rw [znt (n:=(m:Int)-1) (by omega) (by omega),znt (by omega) (by omega)];omega
   simp only [e1,e2,cond_false,e3,zen (show i<9223372036854775807 by omega)]
   by_cases hz:k+m=1
   ·have e4:(((k+m-1:Nat):Int)==0)=true:=by rw [hz];rfl
    rw [if_pos hz]
    simp only [e4,cond_true]
   ·have e4:(((k+m-1:Nat):Int)==0)=false:=beq_false_of_ne (by omega)
    rw [if_neg hz]
    simp only [e4,cond_false]
    rw [qcb l y hl r (i+1) (k+m-1) h5 (by omega) (by omega)]
    cases scan (k+m-1) r with
    |none=>rfl
    |some n=>simp only [Option.map_some];congr 3;omega
theorem zpy [Dfr] (l:List Nd) (hl:l.length≤1000000000):zja l=some (sz l:Int):=by
 rw [qum]
 have h:=qcb l 0 (by omega) l 0 1 rfl (by omega) (by omega)
 rw [yum l.length l 0 (Nat.le_refl _)] at h
 rw [Int.natCast_zero,show ((1:Nat):Int)=1 from rfl] at h
 rw [h]
 unfold sz
 cases P l with
 |none=>rfl
 |some q=>simp [Nat.beq]
theorem zgx [Dfr] (l:List Nd) (hl:l.length≤1000000000):zff l=some (zgf l):=by
 rw [qur]
 simp only [zpy l hl,Option.bind_some]
 unfold zgf sz
 cases h:P l with
 |none=>rfl
 |some q =>
  obtain ⟨t,r⟩:=q
  obtain ⟨hok,hl2⟩:=zuf h
  have hp:=t.zhu
  have e0:(((t.size:Nat):Int)==0)=false:=beq_false_of_ne (by omega)
  simp only [e0,cond_false]
  have szd:∀(i:Nat) (a:T) (s:List Nd),a.ok→l.drop i=a.row++s→i≤l.length→zcc (i:Int) (l.length:Int) l.length=true∧zja (cut l (i:Int) (l.length:Int))=some (a.size:Int)∧w64 ((i:Int)+(a.size:Int))=((i+a.size:Nat):Int)∧zcm (cut l (i:Int) ((i+a.size:Nat):Int))=some a.row:=by
   intro i a s ha hd hi
   obtain ⟨k1,k2,k3,k4⟩:=zls hd
   refine ⟨znj hi (Nat.le_refl _),?_,?_,?_⟩
   ·rw [qox,hd,zpy _ (by have:=congrArg List.length hd;rw [List.length_drop] at this;omega)]
    unfold sz
    rw [qio ha]
   ·rw [znt (by omega) (by omega)];omega
   ·rw [k1,zin _ (by rw [T.zab];omega)]
  cases t with
  |n0 n =>
   have ha:ar n.1=some 0:=hok
   have hix:ix l 0=n:=by rw [hl2];rfl
   have hid:zaa 0 l.length=true:=zeu (by rw [hl2];simp [T.row])
   simp only [hid,hix,cond_true,zkc,Option.bind_some,arI,ha]
   rw [zfr]
   rfl
  |n1 n a =>
   have ha:ar n.1=some 1:=hok.1
   have hix:ix l 0=n:=by rw [hl2];rfl
   have hid:zaa 0 l.length=true:=zeu (by rw [hl2];simp [T.row])
   have hd1:l.drop 1=a.row++r:=by rw [hl2];rfl
   obtain ⟨k1,k2,k3,k4⟩:=zls hd1
   obtain ⟨s1,s2,s3,s4⟩:=szd 1 a r hok.2 hd1 (by omega)
   simp only [hid,hix,cond_true,zkc,Option.bind_some,arI,ha]
   rw [zfr,show decide ((0:Int)<((1:Nat):Int))=true from rfl,show (1:Int)=((1:Nat):Int) from rfl]
   simp only [cond_true,s1,s2,s3,s4,k4,Option.bind_some,room (show (([]:List (List Nd)).length+1)*24≤140737488355328 by decide)]
   rw [zfr]
   rfl
  |n2 n a b =>
   have ha:ar n.1=some 2:=hok.1
   have hix:ix l 0=n:=by rw [hl2];rfl
   have hid:zaa 0 l.length=true:=zeu (by rw [hl2];simp [T.row])
   have hd1:l.drop 1=a.row++(b.row++r):=by rw [hl2];simp [T.row]
   obtain ⟨k1,k2,k3,k4⟩:=zls hd1
   obtain ⟨s1,s2,s3,s4⟩:=szd 1 a _ hok.2.1 hd1 (by omega)
   obtain ⟨j1,j2,j3,j4⟩:=zls k2
   obtain ⟨u1,u2,u3,u4⟩:=szd (1+a.size) b _ hok.2.2 k2 k3
   simp only [hid,hix,cond_true,zkc,Option.bind_some,arI,ha]
   rw [zfr,show decide ((0:Int)<((2:Nat):Int))=true from rfl,show (1:Int)=((1:Nat):Int) from rfl]
   simp only [cond_true,s1,s2,s3,s4,k4,Option.bind_some,room (show (([]:List (List Nd)).length+1)*24≤140737488355328 by decide)]
   rw [zfr,show decide (w64 (0+((1:Nat):Int))<((2:Nat):Int))=true from rfl]
   simp only [cond_true,u1,u2,u3,u4,j4,Option.bind_some,List.nil_append,room (show (([a.row]:List (List Nd)).length+1)*24≤140737488355328 by simp)]
   rw [zfr]
   rfl
theorem zuj [Dfr] (n:Nd) (ks:List (List Nd)) (hx:zfl ks≤1000000) (hn:ks.length≤1000000):zbc n ks=some (n::ks.flatten):=by
 rw [quq,zop ks (by omega) (by omega)]
 have:=zol ks
 simp only [Option.bind_some,room (show (1+ks.flatten.length)*32≤140737488355328 by omega),cond_true]
 rfl
theorem ydv [Dfr] (n:Nd) (a b:List Nd) (ha:a.length≤100000) (hb:b.length≤100000):zbc n [a,b]=some (n::(a++b)):=by
 rw [zuj n [a,b] (by simp [zfl];omega) (by simp)]
 simp
theorem qqz [Dfr] (n:Nd) (a:List Nd) (ha:a.length≤100000):zbc n [a]=some (n::a):=by
 rw [zuj n [a] (by simp [zfl];omega) (by simp)]
 simp
def letters:ByteArray:=⟨#[97,98,99,100,101,102,103,104,105,106,107,108,109,110,111,112,113,114,115,116,117,118,119,120,121,122]⟩
theorem qvn [Dfr] (b:UInt8):letters.data.toList.contains b=lowB b:=by
 have h:∀n:Nat,n<256→letters.data.toList.contains (UInt8.ofNat n)=lowB (UInt8.ofNat n):=by decide +kernel
 have:=h b.toNat b.toNat_lt
 rwa [UInt8.ofNat_toNat] at this
theorem zzo [Dfr] {p:UInt8→Bool}:∀{l:List UInt8},l.dropWhile p=[]↔l.all p=true
 |[]=>by simp
 |x::r=>by
  rw [List.dropWhile_cons,List.all_cons]
  cases h:p x with
  |true=>simpa using zzo (l:=r)
  |false=>simp
theorem zzp [Dfr] {p:UInt8→Bool}:∀{l:List UInt8},(l.dropWhile p).all p=true↔l.all p=true
 |[]=>by simp
 |x::r=>by
  rw [List.dropWhile_cons,List.all_cons]
  cases h:p x with
  |true=>simpa using zzp (l:=r)
  |false=>simp [h]
theorem yib [Dfr] {p:UInt8→Bool} (l:List UInt8):l.reverse.all p=l.all p:=by
 rw [Bool.eq_iff_iff,List.all_eq_true,List.all_eq_true]
 exact ⟨fun h x hx=>h x (List.mem_reverse.2 hx),fun h x hx=>h x (List.mem_reverse.1 hx)⟩
theorem yci [Dfr] (l cs:List UInt8):Lib.trimS l cs=[]↔l.all (cs.contains ·)=true:=by
 unfold Lib.trimS Lib.trimLeftS Lib.trimRightS
 rw [zzo,yib,zzp,yib]
theorem quk [Dfr] (s:ByteArray):qgb s=some (qjn s):=by
 rw [qqv]
 simp only [str_eq,qsv]
 by_cases h0:s=ByteArray.empty
 ·subst h0;rfl
 ·have hsz:1≤s.size:=by
   rcases Nat.eq_zero_or_pos s.size with h|h
   ·exfalso;apply h0
    obtain ⟨⟨l⟩⟩:=s
    have:l=[]:=List.eq_nil_of_length_eq_zero h
    rw [this];rfl
   ·exact h
  simp only [decide_eq_false h0,Bool.not_false,cond_true]
  by_cases h8:s.size≤8
  ·have e2:decide ((s.size:Int)≤8)=true:=decide_eq_true (by omega)
   have ht:zsl s (⟨#[97,98,99,100,101,102,103,104,105,106,107,108,109,110,111,112,113,114,115,116,117,118,119,120,121,122]⟩)=some ⟨(Lib.trimS s.data.toList letters.data.toList).toArray⟩:=by
    rw [qew]
    unfold zgw qdl
    rw [decide_eq_true (show s.size≤9223372036854775807 by omega)]
    rfl
   have e3:decide ((⟨(Lib.trimS s.data.toList letters.data.toList).toArray⟩:ByteArray)=ByteArray.empty)=s.data.toList.all lowB:=by
    rw [show (ByteArray.empty:ByteArray)=⟨([]:List UInt8).toArray⟩ from rfl]
    have e4:((⟨(Lib.trimS s.data.toList letters.data.toList).toArray⟩:ByteArray)=⟨([]:List UInt8).toArray⟩)↔Lib.trimS s.data.toList letters.data.toList=[]:=by
     constructor
     ·intro h;injection h with h;injection h
     ·intro h;rw [h]
    have this:(fun x=>letters.data.toList.contains x)=lowB:=funext qvn
    have e5:=e4.trans (yci s.data.toList letters.data.toList)
    rw [this] at e5
    cases hA:s.data.toList.all lowB with
    |true=>exact decide_eq_true (e5.2 hA)
    |false=>exact decide_eq_false fun h=>by rw [e5.1 h] at hA;cases hA
   simp only [e2,cond_true,ht,Option.bind_some,e3,zoo zsz s (by decide),qjn]
   rw [show zsz=ynw from rfl,decide_eq_true hsz,decide_eq_true h8]
   cases s.data.toList.all lowB<;>rfl
  ·have e2:decide ((s.size:Int)≤8)=false:=decide_eq_false (by omega)
   simp [e2,qjn,h8]
theorem qup [Dfr] (n:Nd):qgg n=some (right n):=by
 rw [qqy]
 simp only [zkc,Option.bind_some,str_eq,qsv,quk,int_eq,decide_true,Bool.true_and]
 unfold right
 by_cases h1:n.1=1
 ·simp only [h1,decide_true,cond_true,if_true]
  cases qjn n.2.1<;>cases decide (n.2.2=0)<;>rfl
 ·by_cases h2:n.1=11
  ·simp [h2,zlw]
   by_cases c1:n.2.1=ByteArray.empty<;>by_cases c2:1≤n.2.2<;>simp [c1,c2]
  ·by_cases h3:n.1=14
   ·simp [h3,zlw]
    by_cases c1:n.2.1=ByteArray.empty<;>by_cases c2:1≤n.2.2<;>simp [c1,c2]
   ·simp only [h1,h2,h3,decide_false,cond_false,or_self,if_false]
    have e:decide (arI n.1≥0)=(ar n.1).isSome:=by
     unfold arI
     cases ar n.1 with
     |none=>rfl
     |some m=>simp
    rw [e]
    by_cases c1:n.2.1=ByteArray.empty<;>by_cases c2:n.2.2=0<;>cases (ar n.1).isSome<;>simp [c1,c2]
theorem qnr [Dfr] (n:Nd):zwo n=some (!right n):=by
 rw [qjh,qup]
 rfl
theorem qul [Dfr] (l:List Nd) (hl:l.length≤4611686018427387904):qgf l=some (whole l):=by
 rw [qqw]
 unfold whole
 rw [ywp]
 by_cases h1:1≤l.length
 ·have e1:decide ((l.length:Int)>0)=true:=decide_eq_true (by omega)
  by_cases h2:l.length≤200
  ·have e2:decide ((l.length:Int)≤200)=true:=decide_eq_true (by omega)
   have hc:=zjz l ⟨zou,[]⟩ (fun n=> !right n) (by omega) (fun x hx=>by rw [qge];exact qnr x)
   have ea:(!(l.any fun n=> !right n))=l.all right:=by rw [List.not_any_eq_all_not];simp
   simp only [e1,e2,cond_true,hc,Option.bind_some,ea,zpy l (by omega),int_eq,h1,h2,decide_true,and_true,Bool.true_and]
   cases l.all right with
   |false=>rfl
   |true =>
    simp only [cond_true,Bool.true_and]
    congr 1
    rw [decide_eq_decide]
    omega
  ·have e2:decide ((l.length:Int)≤200)=false:=decide_eq_false (by omega)
   simp only [e1,e2,cond_true,cond_false,h2,decide_false,Bool.false_and,Bool.and_false]
 ·have e1:decide ((l.length:Int)>0)=false:=decide_eq_false (by omega)
  simp only [e1,cond_false,h1,and_false,decide_false,Bool.and_false]
theorem zwq [Dfr] (ks:List Int) (l:List Nd) (hl:l.length≤1000000000) (hk:ks.length≤1000):∀(r:List Nd) (i n:Nat),l.drop i=r→n≤i→zku ks (n:Int) l (l.length:Int) (i:Int)=some (0,((n+r.countP (fun x=>decide (x.1∈ks)):Nat):Int))
 |[],i,n,h,hn=>by
  obtain ⟨h1,h2⟩:=drop_nil h
  rw [ztb]
  simp only [h2,cond_false,List.countP_nil,Nat.add_zero]
 |x::r,i,n,h,hn=>by
  obtain ⟨h1,h2,h3,h4,h5,h6⟩:=zan h
  rw [ztb]
  simp only [h2,h3,h4,cond_true,zjt ks _ (show ks.length≤4611686018427387904 by omega),Option.bind_some,zen (show i<9223372036854775807 by omega),zen (show n<9223372036854775807 by omega),List.countP_cons]
  cases h7:decide (x.1∈ks) with
  |true =>
   simp only [cond_true,zwq ks l hl hk r (i+1) (n+1) h5 (by omega),if_true]
   congr 3;omega
  |false =>
   simp only [cond_false,zwq ks l hl hk r (i+1) n h5 (by omega),Bool.false_eq_true,if_false,Nat.add_zero]
theorem zrj [Dfr] (l:List Nd) (ks:List Int) (hl:l.length≤1000000000) (hk:ks.length≤1000):zpz l ks=some ((l.countP (fun x=>decide (x.1∈ks)):Nat):Int):=by
 rw [qra]
 have:=zwq ks l hl hk l 0 0 rfl (by omega)
 rw [Int.natCast_zero] at this
 rw [this,Nat.zero_add];rfl
end Go.Proofs.YtjolkdjkhekbnaaGreatDoor.Sv
