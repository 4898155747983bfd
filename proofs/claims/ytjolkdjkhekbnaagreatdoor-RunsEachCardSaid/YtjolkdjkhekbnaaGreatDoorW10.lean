/- What the functions of settling compute (package settle, redressref10): in plain words. -/
import Derived.Test.YtjolkdjkhekbnaaGreatDoorM3
import Derived.Test.YtjolkdjkhekbnaaGreatDoorW01
import Derived.Test.YtjolkdjkhekbnaaGreatDoorM4
namespace Go.Proofs.YtjolkdjkhekbnaaGreatDoor.Sv
open Go Go.Sv Go.Rd
theorem zlx [Dfr] (s:Int):zkb s=some (Tm.over s).row:=by
 rw [qjf];rfl
theorem zoa [Dfr] (s:Int) (c:Tm) (h:c.size≤50000):zio s c.row=some (Tm.fin s c).row:=by
 rw [qnf,qqz _ _ (by rw [Tm.zab];omega)]
 rfl
theorem qvi [Dfr] (k:Int) (a b:Tm) (ha:a.size≤50000) (hb:b.size≤50000):zbc (nd k) [a.row,b.row]=some (nd k::(a.row++b.row)) :=
 ydv _ _ _ (by rw [Tm.zab];omega) (by rw [Tm.zab];omega)
theorem qso [Dfr] (m:Tm):zaa 0 m.row.length=true:=zeu (by rw [Tm.zab];exact m.zhu)
theorem qsn [Dfr] (m:Tm):ix m.row 0=m.t.hd:=by
 obtain ⟨r,hr⟩:=T.ykv m.t
 unfold Tm.row
 rw [hr];rfl
theorem qhx [Dfr] (s:Int) (c:Tm):cut (Tm.fin s c).row 1 ((Tm.fin s c).row.length:Int)=c.row:=by
 rw [show (1:Int)=((1:Nat):Int) from rfl,qox]
 rfl
theorem zzt [Dfr] (m:Tm):zcc 1 (m.row.length:Int) m.row.length=true:=by
 have:=m.zhu
 rw [←Tm.zab] at this
 exact znj (a:=1) (by omega) (Nat.le_refl _)
theorem zvm [Dfr] (x c:Tm) (hx:x.size≤20000) (hc:c.size≤20000):znz x.row c.row=some (Tm.zhl x c).row:=by
 rw [qfs]
 simp only [qso,qsn,cond_true,zzt]
 have h13:zbc (13,ByteArray.empty,0) [x.row,c.row]=some (Tm.stack x c).row:=qvi 13 x c (by omega) (by omega)
 cases x<;>first|(simp only [h13];rfl)|skip
 rename_i s d
 rw [Tm.zcl] at hx
 have h5:zbc (5,ByteArray.empty,0) [d.row,c.row]=some (Tm.seq d c).row:=qvi 5 d c (by omega) (by omega)
 rw [qhx,h5]
 simp only [Option.bind_some]
 rw [zoa _ _ (by rw [Tm.zaw];omega)]
 rfl
theorem qqn [Dfr] (x y:Tm) (hx:x.size≤20000) (hy:y.size≤20000):qal (nd 7) x.row y.row=some (Tm.par' x y).row:=by
 rw [qne]
 simp only [qso,qsn,cond_true,zzt,quh,Option.bind_some]
 have h7:zbc (nd 7) [x.row,y.row]=some (Tm.par x y).row:=qvi 7 x y (by omega) (by omega)
 cases x with
 |over s =>
  cases y with
  |over z=>rw [zlx];rfl
  |_=>simp only [h7];rfl
 |fin s c =>
  cases y with
  |fin z d =>
   rw [Tm.zcl] at hx hy
   have h5:zbc (nd 7) [c.row,d.row]=some (Tm.par c d).row:=qvi 7 c d (by omega) (by omega)
   rw [qhx,qhx,h5]
   simp only [Option.bind_some]
   rw [zoa _ _ (by rw [Tm.zbq];omega)]
   rfl
  |_=>simp only [h7];rfl
 |_=>simp only [h7];cases y<;>rfl
theorem zos [Dfr] (l:List Nd):zcz l=some (match l with|[n]=>if n.1=11 then (n.2.2,true) else (0,false)|_=>(0,false)):=by
 rw [qfu]
 match l with
 |[]=>rfl
 |[n] =>
  simp only [show ((([n]:List Nd).length:Int) != 1)=false from rfl,cond_false,show zaa 0 ([n]:List Nd).length=true from rfl,cond_true,show ix [n] 0=n from rfl]
  by_cases h:n.1=11
  ·simp [h]
  ·have:(n.1 != 11)=true:=by simpa using h
   simp [this,h]
 |a::b::r =>
  have:(((a::b::r).length:Int) != 1)=true:=by
   simp only [List.length_cons,bne_iff_ne,ne_eq];omega
  rw [this];rfl
def ended (m:Tm):Int×Bool:=match m with| .over s=>(s,true)|_=>(0,false)
theorem zfq [Dfr] (m:Tm):zcz m.row=some (ended m):=by
 rw [zos]
 have two:∀(n:Nd) (a:Tm),(match n::a.row with|[n]=>if n.1=11 then (n.2.2,true) else (0,false)|_=>((0:Int),false))=(0,false):=fun n a=>by
  have:=a.qkq
  cases h:a.row with
  |nil=>exact absurd h this
  |cons _ _=>rfl
 have three:∀(n:Nd) (a b:Tm),(match n::(a.row++b.row) with|[n]=>if n.1=11 then (n.2.2,true) else (0,false)|_=>((0:Int),false))=(0,false):=fun n a b=>by
  have:=a.qkq
  cases h:a.row with
  |nil=>exact absurd h this
  |cons _ _=>rfl
 cases m<;>first|rfl|exact congrArg some (two _ _)|exact congrArg some (three _ _ _)
theorem ykk [Dfr]:∀(n:Nat) (m:Tm),m.size≤n→n≤10000→zbb m.row=some m.st.row:=by
 intro n
 induction n with
 |zero=>intro m h;have:=m.zhu;omega
 |succ n ih =>
  intro m h hn
  rw [qcy]
  simp only [qso,qsn,cond_true]
  cases m with
  |act s=>rw [yap (.act s) rfl (by omega)];rw [Tm.zvj];rfl
  |yield=>rw [yap .yield rfl (by omega)];rw [Tm.ziw];rfl
  |over s=>rw [yap (.over s) rfl (by omega)];rw [Tm.zfb];rfl
  |skip=>rw [yap .skip rfl (by omega),Tm.zqu];simp only [zlx];rfl
  |throw=>rw [yap .throw rfl (by omega),Tm.znv];simp only [zlx];rfl
  |alt a b=>rw [qsj (.alt a b) rfl (by omega),Tm.qbr];rfl
  |pair a b=>rw [qsj (.pair a b) rfl (by omega),Tm.zso];rfl
  |fin s a=>rw [ymv (.fin s a) rfl (by omega),Tm.zmp];rfl
  |hand a b =>
   rw [Tm.zba] at h
   have ha:=ih a (by omega) (by omega)
   have hb:=ih b (by omega) (by omega)
   have hsa:=a.zdk
   rw [qsj (.hand a b) rfl (by rw [Tm.zba];omega),Tm.zqv]
   simp only [Option.bind_some,show ix [a.row,b.row] 0=a.row from rfl,show ix [a.row,b.row] 1=b.row from rfl,show zaa 0 [a.row,b.row].length=true from rfl,show zaa 1 [a.row,b.row].length=true from rfl,ha,show (Tm.hand a b).t.hd=nd 8 from rfl,cond_true,cond_false,show (((nd 8).1:Int)==2)=false from rfl,show (((nd 8).1:Int)==3)=false from rfl,show (((nd 8).1:Int)==8)=true from rfl]
   rw [zlf]
   simp only [qso,qsn,cond_true]
   generalize a.st=x at hsa
   have h8:zbc (nd 8) [x.row,b.row]=some (Tm.hand x b).row:=qvi 8 x b (by omega) (by omega)
   cases x<;>first|(simp only [h8];rfl)|skip
   rename_i s
   simp only [Tm.hand',Tm.t,T.hd]
   by_cases hz:s=2
   ·subst hz
    simp only [hb,if_true,emp];rfl
   ·simp only [if_neg hz,int_eq,hz,decide_false,Bool.and_false,cond_false];rfl
  |seq a b =>
   rw [Tm.zaw] at h
   have ha:=ih a (by omega) (by omega)
   have hb:=ih b (by omega) (by omega)
   have hsa:=a.zdk
   have hsb:=b.zdk
   rw [qsj (.seq a b) rfl (by rw [Tm.zaw];omega),Tm.zsn]
   simp only [Option.bind_some,show ix [a.row,b.row] 0=a.row from rfl,show ix [a.row,b.row] 1=b.row from rfl,show zaa 0 [a.row,b.row].length=true from rfl,show zaa 1 [a.row,b.row].length=true from rfl,ha,hb,show (Tm.seq a b).t.hd=nd 5 from rfl,cond_true,cond_false,show (((nd 5).1:Int)==2)=false from rfl,show (((nd 5).1:Int)==3)=false from rfl,show (((nd 5).1:Int)==8)=false from rfl,show (((nd 5).1:Int)==5)=true from rfl,qso,qsn]
   generalize a.st=x at hsa
   have h5:zbc (nd 5) [x.row,b.row]=some (Tm.seq x b).row:=qvi 5 x b (by omega) (by omega)
   cases x with
   |fin s c =>
    simp only [Tm.seq',Tm.t,T.hd,show ((14:Int) != 14)=false from rfl,cond_false]
    by_cases hz:s=1
    ·subst hz
     rw [Tm.zcl] at hsa
     have hss:=zvm b.st c (by omega) (by omega)
     simp only [show ((1:Int) != 1)=false from rfl,cond_false,if_true,zzt,cond_true,qhx,hss,Option.bind_some]
    ·have:(s != 1)=true:=by simpa using hz
     simp only [this,cond_true,if_neg hz]
   |over s =>
    rw [zlf]
    simp only [qso,qsn,cond_true,Tm.seq',Tm.t,T.hd]
    by_cases hz:s=1
    ·subst hz
     simp only [hb,if_true,emp];rfl
    ·simp only [if_neg hz,int_eq,hz,decide_false,Bool.and_false,cond_false];rfl
   |_ =>
    rw [zlf]
    simp only [qso,qsn,cond_true,h5]
    rfl
  |stack a c =>
   rw [Tm.zdh] at h
   have ha:=ih a (by omega) (by omega)
   have hsa:=a.zdk
   have hss:=zvm a.st c (by omega) (by omega)
   rw [qsj (.stack a c) rfl (by rw [Tm.zdh];omega),Tm.zix]
   simp only [Option.bind_some,show ix [a.row,c.row] 0=a.row from rfl,show ix [a.row,c.row] 1=c.row from rfl,show zaa 0 [a.row,c.row].length=true from rfl,show zaa 1 [a.row,c.row].length=true from rfl,ha,hss]
   rfl
  |going a b =>
   rw [Tm.zce] at h
   have ha:=ih a (by omega) (by omega)
   have hsa:=a.zdk
   rw [qsj (.going a b) rfl (by rw [Tm.zce];omega),Tm.zkj]
   simp only [Option.bind_some,show ix [a.row,b.row] 0=a.row from rfl,show ix [a.row,b.row] 1=b.row from rfl,show zaa 0 [a.row,b.row].length=true from rfl,show zaa 1 [a.row,b.row].length=true from rfl,ha,zfq,show (Tm.going a b).t.hd=nd 12 from rfl,cond_true]
   generalize a.st=x at hsa
   have h12:zbc (nd 12) [x.row,b.row]=some (Tm.going x b).row:=qvi 12 x b (by omega) (by omega)
   cases x<;>first|(simp only [h12,ended];rfl)|skip
   rename_i s
   simp only [Tm.zvu,ended]
   by_cases hz:s=1
   ·subst hz
    simp only [zoa 1 b (by omega),if_true];rfl
   ·have e1:(s != 1)=true:=by simpa using hz
    have e2:zio s [nd 2]=some (Tm.fin s .skip).row:=zoa s .skip (by decide)
    have e3:ix ([a.row,b.row].set 1 [(2,ByteArray.empty,0)]) 1=[nd 2]:=rfl
    have e4:zaa 1 ([a.row,b.row].set 1 [(2,ByteArray.empty,0)]).length=true:=rfl
    simp only [e1,e3,e4,e2,if_neg hz,cond_true];rfl
  |par a b =>
   rw [Tm.zbq] at h
   have ha:=ih a (by omega) (by omega)
   have hb:=ih b (by omega) (by omega)
   have hsa:=a.zdk
   have hsb:=b.zdk
   have hp:=qqn a.st b.st (by omega) (by omega)
   rw [qsj (.par a b) rfl (by rw [Tm.zbq];omega),Tm.zln]
   simp only [Option.bind_some,show ix [a.row,b.row] 0=a.row from rfl,show ix [a.row,b.row] 1=b.row from rfl,show zaa 0 [a.row,b.row].length=true from rfl,show zaa 1 [a.row,b.row].length=true from rfl,ha,hb,show (Tm.par a b).t.hd=nd 7 from rfl,hp]
   rfl
  |block a =>
   rw [Tm.zam] at h
   have ha:=ih a (by omega) (by omega)
   have hsa:=a.zdk
   rw [ymv (.block a) rfl (by rw [Tm.zam];omega),Tm.zkk]
   simp only [Option.bind_some,show ix [a.row] 0=a.row from rfl,show zaa 0 [a.row].length=true from rfl,ha,show (Tm.block a).t.hd=nd 9 from rfl,cond_true]
   rw [qft]
   simp only [qso,qsn,cond_true]
   generalize a.st=x at hsa
   have h9:zbc (nd 9) [x.row]=some (Tm.block x).row:=qqz _ _ (by rw [Tm.zab];omega)
   cases x<;>first|(simp only [h9];rfl)|skip
   rename_i s c
   rw [Tm.zcl] at hsa
   have hc:=ih c (by omega) (by omega)
   simp only [Tm.block',Tm.t,T.hd]
   by_cases hz:s=1
   ·subst hz
    simp only [zlx,if_true,emp];rfl
   ·by_cases hz2:s=2
    ·subst hz2
     simp only [zzt,qhx,hc,emp];rfl
    ·simp only [if_neg hz,if_neg hz2,int_eq,hz,hz2,decide_false,Bool.and_false,cond_false,h9];rfl
noncomputable def zbw (l:List Nd):List Nd:=match tmOf l with|some m=>if m.po=true∨m.qo=true then m.st.row else []|none=>[]
theorem ywh [Dfr] (m:Tm):on m.so=4↔m.qo=true:=by rw [Tm.ywe];simp
theorem ywi [Dfr] (m:Tm):on m.so=3↔m.po=true:=by rw [Tm.ykg];simp
theorem zst [Dfr] (l:List Nd) (hl:l.length≤4611686018427387904):zly l=some (zbw l):=by
 rw [qcz]
 simp only [qqk l _ hl,Option.bind_some]
 unfold zbw sOf
 cases h:tmOf l with
 |none=>rfl
 |some m =>
  obtain ⟨rfl,h2,h3⟩:=ziv.1 h
  have hs:=ykk m.size m (Nat.le_refl _) (by omega)
  have hsz:=m.zdk
  have e1:decide ((m.st.row.length:Int)>200)=false:=decide_eq_false (by rw [Tm.zab];omega)
  have e2:zav (0+m.st.row.length) 32=true:=room (by rw [Tm.zab];omega)
  simp only [hs,Option.bind_some,e1,e2,cond_true,cond_false,List.nil_append,ywh,ywi,if_true,if_false,Bool.false_eq_true]
  cases h1:m.po<;>cases h2:m.qo<;>simp
theorem zhv [Dfr] (l:List Nd) (hl:l.length≤4611686018427387904):zhp l=some (decide (l≠[]∧zbw l=l)):=by
 rw [qam]
 cases l with
 |nil=>rfl
 |cons x r =>
  have e1:decide (((x::r).length:Int)>0)=true:=decide_eq_true (by simp only [List.length_cons];omega)
  have hlen:(zbw (x::r)).length≤4611686018427387904:=by
   unfold zbw
   split
   ·rename_i m hm
    split
    ·have:=m.zdk
     have:=(ziv.1 hm).2.2
     rw [Tm.zab];omega
    ·simp
   ·simp
  simp only [e1,cond_true,zst _ hl,Option.bind_some,qzv _ _ hlen]
  simp
end Go.Proofs.YtjolkdjkhekbnaaGreatDoor.Sv
