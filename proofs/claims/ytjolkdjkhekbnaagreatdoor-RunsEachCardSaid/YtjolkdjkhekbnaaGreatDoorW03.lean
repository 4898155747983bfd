/- What the functions of rows compute (redressref03): in plain words. -/
import Derived.Test.YtjolkdjkhekbnaaGreatDoorW00
import Derived.Test.YtjolkdjkhekbnaaGreatDoorM2
import Derived.Lib.SlTrimSet
namespace Go.Proofs.YtjolkdjkhekbnaaGreatDoor.Sv
open Go Go.Sv Go.Rd
theorem zgz [Dfr] (k:Int):zrm k=some (arI k):=by
 rw [qjj]
 by_cases h1:k=1; · subst h1;rfl
 by_cases h2:k=2; · subst h2;rfl
 by_cases h3:k=3; · subst h3;rfl
 by_cases h4:k=4; · subst h4;rfl
 by_cases h5:k=5; · subst h5;rfl
 by_cases h6:k=6; · subst h6;rfl
 by_cases h7:k=7; · subst h7;rfl
 by_cases h8:k=8; · subst h8;rfl
 by_cases h9:k=9; · subst h9;rfl
 by_cases h10:k=10; · subst h10;rfl
 by_cases h11:k=11; · subst h11;rfl
 by_cases h12:k=12; · subst h12;rfl
 by_cases h13:k=13; · subst h13;rfl
 by_cases h14:k=14; · subst h14;rfl
 have e:∀c:Int,¬k=c→(k==c)=false:=fun c h=>beq_false_of_ne h
 simp only [e _ h1,e _ h2,e _ h3,e _ h4,e _ h5,e _ h6,e _ h7,e _ h8,e _ h9,e _ h10,e _ h11,e _ h12,e _ h13,e _ h14,cond_false]
 simp [arI,ar, *]
def wk (l:List Nd) (at_:Nat):Int×Int:=match P (l.drop at_) with|some (t,r)=>(((at_+t.size:Nat):Int),(t.depth:Int))|none=>(-1,0)
theorem qrh [Dfr] (l:List Nd) (hl:l.length≤4611686018427387904):∀(n i:Nat),l.length-i≤n→i≤l.length→zul l (i:Int)=some (wk l i):=by
 intro n
 induction n with
 |zero =>
  intro i hn hi
  have h1:l.drop i=[]:=List.drop_eq_nil_of_le (by omega)
  have h2:decide ((i:Int)≥(l.length:Int))=true:=decide_eq_true (by omega)
  rw [zrl]
  simp only [h2,cond_true,wk,h1,yvv]
 |succ n ih =>
  intro i hn hi
  cases hd:l.drop i with
  |nil =>
   have h2:decide ((i:Int)≥(l.length:Int))=true:=decide_eq_true (by have:=(drop_nil hd).1;omega)
   rw [zrl]
   simp only [h2,cond_true,wk,hd,yvv]
  |cons x r =>
   obtain ⟨h1,h2,h3,h4,h5,h6⟩:=zan hd
   have h7:decide ((i:Int)≥(l.length:Int))=false:=decide_eq_false (by omega)
   have hs:w64 ((i:Int)+1)=((i+1:Nat):Int):=zen (by omega)
   have hk:=ih (i+1) (by omega) (by omega)
   have hP:=yqm x r
   rw [←hd] at hP
   rw [zrl]
   simp only [h7,cond_false,h3,cond_true,h4,zgz,Option.bind_some,hs]
   rw [zfp]
   simp only [h3,cond_true,h4,zgz,Option.bind_some]
   unfold wk
   rw [hP]
   cases ha:ar x.1 with
   |none=>simp only [arI,ha];rfl
   |some m =>
    have hm:=yia ha
    have e1:arI x.1=(m:Int):=by simp [arI,ha]
    have e2:decide ((m:Int)<0)=false:=decide_eq_false (by omega)
    simp only [e1,e2,cond_false]
    rcases m with _|_|_|m
    ·rfl
    ·simp only [show decide ((0:Int)<((0+1:Nat):Int))=true from rfl,cond_true,hk,Option.bind_some]
     unfold wk
     rw [h5]
     cases hp:P r with
     |none=>rfl
     |some q =>
      obtain ⟨a,l1⟩:=q
      have hda:=a.qhv
      have g1:decide (((i+1+a.size:Nat):Int)<0)=false:=decide_eq_false (by omega)
      have g2:decide ((a.depth:Int)>0)=true:=decide_eq_true (by omega)
      simp only [g1,g2,cond_true,cond_false]
      rw [zfp]
      have g3:decide (w64 (0+1)<((0+1:Nat):Int))=false:=rfl
      have hds:=a.zuu
      have hsz:=(zuf hp).2
      have hln:=congrArg List.length hsz
      rw [List.length_append,T.zab] at hln
      simp only [h3,cond_true,h4,zgz,Option.bind_some,e1,g3,cond_false,T.size,T.depth]
      simp only [zen (show a.depth<9223372036854775807 by omega),Nat.beq_refl,cond_true]
      congr 3;omega
    ·simp only [show decide ((0:Int)<((0+1+1:Nat):Int))=true from rfl,cond_true,hk,Option.bind_some]
     unfold wk
     rw [h5]
     cases hp:P r with
     |none=>rfl
     |some q =>
      obtain ⟨a,l1⟩:=q
      have hda:=a.qhv
      have g1:decide (((i+1+a.size:Nat):Int)<0)=false:=decide_eq_false (by omega)
      have g2:decide ((a.depth:Int)>0)=true:=decide_eq_true (by omega)
      have hsz:=(zuf hp).2
      have hln:=congrArg List.length hsz
      rw [List.length_append,T.zab] at hln
      have hd2:l.drop (i+1+a.size)=l1:=by rw [←List.drop_drop,h5,hsz,List.drop_append_of_le_length (by simp [T.zab]),←T.zab,List.drop_length,List.nil_append]
      have hk2:=ih (i+1+a.size) (by omega) (by omega)
      have hds:=a.zuu
      simp only [g1,g2,cond_true,cond_false]
      rw [zfp]
      have g3:decide (w64 (0+1)<((0+1+1:Nat):Int))=true:=rfl
      simp only [h3,cond_true,h4,zgz,Option.bind_some,e1,g3,hk2]
      unfold wk
      rw [hd2]
      cases hp2:P l1 with
      |none=>rfl
      |some q2 =>
       obtain ⟨b,l2⟩:=q2
       have hdb:=b.qhv
       have hdsb:=b.zuu
       have hsz2:=(zuf hp2).2
       have hln2:=congrArg List.length hsz2
       rw [List.length_append,T.zab] at hln2
       have g4:decide (((i+1+a.size+b.size:Nat):Int)<0)=false:=decide_eq_false (by omega)
       simp only [g4,cond_false]
       have g5:decide (w64 (w64 (0+1)+1)<((0+1+1:Nat):Int))=false:=rfl
       by_cases hc:a.depth<b.depth
       ·have g6:decide ((b.depth:Int)>(a.depth:Int))=true:=decide_eq_true (by omega)
        simp only [g6,cond_true]
        rw [zfp]
        simp only [h3,cond_true,h4,zgz,Option.bind_some,e1,g5,cond_false,T.size,T.depth,zen (show b.depth<9223372036854775807 by omega),Nat.beq_refl]
        rw [show max a.depth b.depth=b.depth by omega]
        congr 3;omega
       ·have g6:decide ((b.depth:Int)>(a.depth:Int))=false:=decide_eq_false (by omega)
        simp only [g6,cond_false]
        rw [zfp]
        simp only [h3,cond_true,h4,zgz,Option.bind_some,e1,g5,cond_false,T.size,T.depth,zen (show a.depth<9223372036854775807 by omega),Nat.beq_refl]
        rw [show max a.depth b.depth=a.depth by omega]
        congr 3;omega
    ·omega
def sz (l:List Nd):Nat:=match P l with|some (t,_)=>t.size|none=>0
def dep (l:List Nd):Nat:=match P l with|some (t,_)=>t.depth|none=>0
theorem qnx [Dfr] (l:List Nd) (hl:l.length≤4611686018427387904):zwt l=some (dep l:Int):=by
 rw [qji]
 have:=qrh l hl l.length 0 (by omega) (by omega)
 rw [show ((0:Nat):Int)=0 from rfl] at this
 simp only [this,Option.bind_some,wk,List.drop_zero,dep]
 cases P l with
 |none=>rfl
 |some q=>rfl
theorem qsv [Dfr]:(⟨#[]⟩:ByteArray)=ByteArray.empty:=rfl
theorem ywp [Dfr] {l:List Nd}:one l=decide (sz l=l.length∧1≤l.length):=by
 unfold one sz
 cases h:P l with
 |none =>
  by_cases h1:l.length=0
  ·simp [h1]
  ·simp;omega
 |some q =>
  obtain ⟨t,r⟩:=q
  obtain ⟨h1,h2⟩:=zuf h
  have:=congrArg List.length h2
  rw [List.length_append,T.zab] at this
  have hp:=t.zhu
  cases r with
  |nil=>simp at this ⊢;omega
  |cons x r=>simp at this ⊢;omega
def zgf (l:List Nd):List (List Nd):=match P l with|some (t,_)=>t.kids.map T.row|none=>[]
theorem zls [Dfr] {l:List Nd} {i:Nat} {a:T} {r:List Nd} (h:l.drop i=a.row++r):cut l (i:Int) ((i+a.size:Nat):Int)=a.row∧l.drop (i+a.size)=r∧i+a.size≤l.length∧zcc (i:Int) ((i+a.size:Nat):Int) l.length=true:=by
 have hlen:=congrArg List.length h
 rw [List.length_drop,List.length_append,T.zab] at hlen
 have hp:=a.zhu
 refine ⟨?_,?_,by omega,znj (by omega) (by omega)⟩
 ·rw [ztv,List.drop_take,h]
  rw [show i+a.size-i=a.row.length by rw [T.zab];omega,List.take_left]
 ·rw [←List.drop_drop,h,←T.zab,List.drop_left]
theorem qoi [Dfr] (m:Tm):zgf m.row=m.t.kids.map T.row:=by
 unfold zgf
 rw [show P m.row=some (m.t,[]) from qin m.t_ok]
end Go.Proofs.YtjolkdjkhekbnaaGreatDoor.Sv
