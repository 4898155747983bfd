/- What the functions of package slices compute, at each type of elements: in plain words. Printed by a program (mk00.py). -/
import Derived.Test.YtjolkdjkhekbnaaGreatDoorSvTop
import Derived.Test.YtjolkdjkhekbnaaGreatDoorM1
namespace Go.Proofs.YtjolkdjkhekbnaaGreatDoor.Sv
open Go Go.Sv Go.Rd
theorem ywj [Dfr] (t u:Nd):((t.1==u.1)&&((t.2.1.toList==u.2.1.toList)&&(t.2.2==u.2.2)))=decide (t=u):=by
 have h:=yvr t.2.1 u.2.1
 unfold bq at h
 rw [h]
 obtain ⟨a,b,c⟩:=t
 obtain ⟨a',b',c'⟩:=u
 simp only [Prod.mk.injEq]
 by_cases h1:a=a'<;>by_cases h2:b=b'<;>by_cases h3:c=c'<;>simp [h1,h2,h3]
theorem yut [Dfr] (t u:Mv):((t.1==u.1)&&(t.2==u.2))=decide (t=u):=by
 obtain ⟨a,b⟩:=t
 obtain ⟨a',b'⟩:=u
 simp only [Prod.mk.injEq]
 by_cases h1:a=a'<;>by_cases h2:b=b'<;>simp [h1,h2]
theorem str_eq [Dfr] (t u:ByteArray):(t.toList==u.toList)=decide (t=u):=yvr t u
theorem int_eq [Dfr] (t u:Int):(t==u)=decide (t=u):=by
 by_cases h:t=u<;>simp [h]
def zfl {α:Type}:List (List α)→Nat
 |[]=>0
 |x::r=>x.length+zfl r
theorem zol [Dfr] {α:Type}:∀(l:List (List α)),zfl l=l.flatten.length
 |[]=>rfl
 |x::r=>by simp [zfl,zol r]
theorem zin [Dfr] (xs:List Nd) (h:xs.length≤1000000000):zcm xs=some xs:=by
 rw [zor]
 unfold zbz
 rw [room (show xs.length*32≤140737488355328 by omega)]
 rfl
theorem zqy [Dfr] (n:Nat) (hn:n≤1000000000):zgi () (n:Int)=some []:=by
 rw [zpr]
 have hw:w64 ((n:Int)-0)=(n:Int):=by rw [Int.sub_zero];exact yjr (by omega)
 have h1:decide ((n:Int)<0)=false:=decide_eq_false (by omega)
 have hr:zav n 32=true:=room (by omega)
 have h3:decide (0≤(n:Int))=true:=decide_eq_true (by omega)
 simp only [hw,h1,cond_false,Int.toNat_natCast,hr,h3,Bool.and_self,cond_true]
 by_cases h0:n=0
 ·subst h0;rfl
 ·have h2:decide ((n:Int)>0)=true:=decide_eq_true (by omega)
  have hc:zcc 0 0 n=true:=by unfold zcc;simp
  simp [h2,hc,cut]
theorem zgn [Dfr] (xs:List (List Nd)) (hx:zfl xs≤1000000000) (hn:xs.length≤1000000000):∀(r:List (List Nd)) (i acc:Nat),xs.drop i=r→acc+zfl r≤1000000000→zck xs (acc:Int) xs (xs.length:Int) (i:Int)=some (0,(xs,((acc+zfl r:Nat):Int)))
 |[],i,acc,h,ha=>by
  obtain ⟨h1,h2⟩:=drop_nil h
  rw [zfo]
  simp only [h2,cond_false,zfl,Nat.add_zero]
 |x::r,i,acc,h,ha=>by
  obtain ⟨h1,h2,h3,h4,h5,h6⟩:=zan h
  simp only [zfl] at ha
  have hw:w64 ((acc:Int)+(x.length:Int))=((acc+x.length:Nat):Int):=by rw [show (acc:Int)+(x.length:Int)=((acc+x.length:Nat):Int) by omega];exact yjr (by omega)
  have h7:decide (((acc+x.length:Nat):Int)<0)=false:=decide_eq_false (by omega)
  rw [zfo]
  simp only [h2,h3,h4,hw,h7,cond_true,cond_false,zen (show i<9223372036854775807 by omega),zgn xs hx hn r (i+1) (acc+x.length) h5 (by omega),zfl,Nat.add_assoc]
theorem zgm [Dfr] (xs:List (List Nd)) (hn:xs.length≤1000000000):∀(r:List (List Nd)) (i:Nat) (acc:List Nd),xs.drop i=r→acc.length+zfl r≤1000000000→zcj acc xs (xs.length:Int) (i:Int)=some (0,acc++r.flatten)
 |[],i,acc,h,ha=>by
  obtain ⟨h1,h2⟩:=drop_nil h
  rw [zfn]
  simp only [h2,cond_false,List.flatten_nil,List.append_nil]
 |x::r,i,acc,h,ha=>by
  obtain ⟨h1,h2,h3,h4,h5,h6⟩:=zan h
  simp only [zfl] at ha
  rw [zfn]
  simp only [h2,h3,h4,room (show (acc.length+x.length)*32≤140737488355328 by omega),cond_true,zen (show i<9223372036854775807 by omega),zgm xs hn r (i+1) (acc++x) h5 (by rw [List.length_append];omega),List.flatten_cons,List.append_assoc]
theorem zop [Dfr] (xs:List (List Nd)) (hx:zfl xs≤1000000000) (hn:xs.length≤1000000000):zfe xs=some xs.flatten:=by
 rw [zno]
 have h0:=zgn xs hx hn xs 0 0 rfl (by omega)
 have h2:=zgm xs hn xs 0 [] rfl (by simpa using hx)
 simp only [Int.natCast_zero,Nat.zero_add] at h0 h2
 simp only [h0,Option.bind_some,zqy _ hx,h2,List.nil_append]
theorem zhf [Dfr] (xs ys:List Nd) (hx:xs.length≤4611686018427387904) (hl:xs.length=ys.length) (b:Bool):∀(r:List Nd) (i:Nat),xs.drop i=r→zct xs ys b (xs.length:Int) (i:Int)=some (if r=ys.drop i then (0,b) else (1,false))
 |[],i,h=>by
  rw [zfz]
  obtain ⟨h1,h2⟩:=drop_nil h
  simp only [h2,cond_false,List.drop_eq_nil_of_le (show ys.length≤i by omega),if_true]
 |x::r,i,h=>by
  rw [zfz]
  obtain ⟨h1,h2,h3,h4,h5,h6⟩:=zan h
  cases hy:ys.drop i with
  |nil=>have:=List.drop_eq_nil_iff.1 hy;omega
  |cons y s =>
   obtain ⟨k1,k2,k3,k4,k5,k6⟩:=zan hy
   simp only [h2,h3,h4,k3,k4,cond_true,ywj,zen (show i<9223372036854775807 by omega),zhf xs ys hx hl b r (i+1) h5,k5]
   by_cases e:x=y
   ·simp [e]
   ·simp [e]
theorem zpt [Dfr] (xs ys:List Nd) (hx:xs.length≤4611686018427387904):zfw xs ys=some (decide (xs=ys)):=by
 rw [zon]
 by_cases hl:xs.length=ys.length
 ·have h1:((xs.length:Int) != (ys.length:Int))=false:=by simp [hl]
  have:=zhf xs ys hx hl false xs 0 rfl
  simp only [Int.natCast_zero,List.drop_zero] at this
  simp only [h1,cond_false,this,Option.bind_some]
  by_cases e:xs=ys<;>simp [e,Nat.beq]
 ·have h1:((xs.length:Int) != (ys.length:Int))=true:=by simp;omega
  have h2:xs≠ys:=fun e=>hl (by rw [e])
  simp [h1,h2]
theorem zew [Dfr] (xs:List Nd) (f:FnV) (p:Nd→Bool) (b:Int) (hx:xs.length≤4611686018427387904) (hp:∀x∈xs,dyn E f [.agg [.int .i64 x.1,.str x.2.1,.int .i64 x.2.2]] .bool=some (p x)):∀(r:List Nd) (i:Nat),xs.drop i=r→∃n:Int×Int,zbp xs f b (xs.length:Int) (i:Int)=some (if r.any p then (1,n.1) else (0,b))∧0≤n.1
 |[],i,h=>by
  obtain ⟨h1,h2⟩:=drop_nil h
  refine ⟨(0,0),?_,Int.le_refl _⟩
  rw [zcg]
  simp only [h2,cond_false]
  simp
 |x::r,i,h=>by
  obtain ⟨h1,h2,h3,h4,h5,h6⟩:=zan h
  obtain ⟨n,hn,hn0⟩:=zew xs f p b hx hp r (i+1) h5
  have hxm:x∈xs:=by
   have:x∈xs.drop i:=by rw [h];exact List.mem_cons_self ..
   exact List.mem_of_mem_drop this
  have hpx:=hp x hxm
  cases e:p x with
  |true =>
   refine ⟨((i:Int),0),?_,by simp⟩
   rw [zcg]
   simp only [h2,h3,h4,hpx,e,cond_true,Option.bind_some,List.any_cons,Bool.true_or,if_true]
  |false =>
   refine ⟨n,?_,hn0⟩
   rw [zcg]
   simp only [h2,h3,h4,hpx,e,cond_true,cond_false,Option.bind_some,List.any_cons,Bool.false_or,zen (show i<9223372036854775807 by omega),hn]
theorem zjz [Dfr] (xs:List Nd) (f:FnV) (p:Nd→Bool) (hx:xs.length≤4611686018427387904) (hp:∀x∈xs,dyn E f [.agg [.int .i64 x.1,.str x.2.1,.int .i64 x.2.2]] .bool=some (p x)):zdl xs f=some (xs.any p):=by
 obtain ⟨n,hn,hn0⟩:=zew xs f p 0 hx hp xs 0 rfl
 rw [Int.natCast_zero] at hn
 rw [zjo,zld]
 simp only [hn,Option.bind_some]
 cases e:xs.any p with
 |true=>simp [Nat.beq,hn0]
 |false=>simp [Nat.beq]
theorem zju [Dfr] (xs:List ByteArray) (h:xs.length≤1000000000):zeq xs=some xs:=by
 rw [zrc]
 unfold zax
 rw [room (show xs.length*16≤140737488355328 by omega)]
 rfl
theorem zsr [Dfr] (n:Nat) (hn:n≤1000000000):zhx () (n:Int)=some []:=by
 rw [zse]
 have hw:w64 ((n:Int)-0)=(n:Int):=by rw [Int.sub_zero];exact yjr (by omega)
 have h1:decide ((n:Int)<0)=false:=decide_eq_false (by omega)
 have hr:zav n 16=true:=room (by omega)
 have h3:decide (0≤(n:Int))=true:=decide_eq_true (by omega)
 simp only [hw,h1,cond_false,Int.toNat_natCast,hr,h3,Bool.and_self,cond_true]
 by_cases h0:n=0
 ·subst h0;rfl
 ·have h2:decide ((n:Int)>0)=true:=decide_eq_true (by omega)
  have hc:zcc 0 0 n=true:=by unfold zcc;simp
  simp [h2,hc,cut]
theorem zho [Dfr] (xs:List (List ByteArray)) (hx:zfl xs≤1000000000) (hn:xs.length≤1000000000):∀(r:List (List ByteArray)) (i acc:Nat),xs.drop i=r→acc+zfl r≤1000000000→zdg xs (acc:Int) xs (xs.length:Int) (i:Int)=some (0,(xs,((acc+zfl r:Nat):Int)))
 |[],i,acc,h,ha=>by
  obtain ⟨h1,h2⟩:=drop_nil h
  rw [zgk]
  simp only [h2,cond_false,zfl,Nat.add_zero]
 |x::r,i,acc,h,ha=>by
  obtain ⟨h1,h2,h3,h4,h5,h6⟩:=zan h
  simp only [zfl] at ha
  have hw:w64 ((acc:Int)+(x.length:Int))=((acc+x.length:Nat):Int):=by rw [show (acc:Int)+(x.length:Int)=((acc+x.length:Nat):Int) by omega];exact yjr (by omega)
  have h7:decide (((acc+x.length:Nat):Int)<0)=false:=decide_eq_false (by omega)
  rw [zgk]
  simp only [h2,h3,h4,hw,h7,cond_true,cond_false,zen (show i<9223372036854775807 by omega),zho xs hx hn r (i+1) (acc+x.length) h5 (by omega),zfl,Nat.add_assoc]
theorem zhn [Dfr] (xs:List (List ByteArray)) (hn:xs.length≤1000000000):∀(r:List (List ByteArray)) (i:Nat) (acc:List ByteArray),xs.drop i=r→acc.length+zfl r≤1000000000→zdf acc xs (xs.length:Int) (i:Int)=some (0,acc++r.flatten)
 |[],i,acc,h,ha=>by
  obtain ⟨h1,h2⟩:=drop_nil h
  rw [zgj]
  simp only [h2,cond_false,List.flatten_nil,List.append_nil]
 |x::r,i,acc,h,ha=>by
  obtain ⟨h1,h2,h3,h4,h5,h6⟩:=zan h
  simp only [zfl] at ha
  rw [zgj]
  simp only [h2,h3,h4,room (show (acc.length+x.length)*16≤140737488355328 by omega),cond_true,zen (show i<9223372036854775807 by omega),zhn xs hn r (i+1) (acc++x) h5 (by rw [List.length_append];omega),List.flatten_cons,List.append_assoc]
theorem zrb [Dfr] (xs:List (List ByteArray)) (hx:zfl xs≤1000000000) (hn:xs.length≤1000000000):zgl xs=some xs.flatten:=by
 rw [zpu]
 have h0:=zho xs hx hn xs 0 0 rfl (by omega)
 have h2:=zhn xs hn xs 0 [] rfl (by simpa using hx)
 simp only [Int.natCast_zero,Nat.zero_add] at h0 h2
 simp only [h0,Option.bind_some,zsr _ hx,h2,List.nil_append]
theorem zil [Dfr] (xs ys:List ByteArray) (hx:xs.length≤4611686018427387904) (hl:xs.length=ys.length) (b:Bool):∀(r:List ByteArray) (i:Nat),xs.drop i=r→zdq xs ys b (xs.length:Int) (i:Int)=some (if r=ys.drop i then (0,b) else (1,false))
 |[],i,h=>by
  rw [zhe]
  obtain ⟨h1,h2⟩:=drop_nil h
  simp only [h2,cond_false,List.drop_eq_nil_of_le (show ys.length≤i by omega),if_true]
 |x::r,i,h=>by
  rw [zhe]
  obtain ⟨h1,h2,h3,h4,h5,h6⟩:=zan h
  cases hy:ys.drop i with
  |nil=>have:=List.drop_eq_nil_iff.1 hy;omega
  |cons y s =>
   obtain ⟨k1,k2,k3,k4,k5,k6⟩:=zan hy
   simp only [h2,h3,h4,k3,k4,cond_true,str_eq,zen (show i<9223372036854775807 by omega),zil xs ys hx hl b r (i+1) h5,k5]
   by_cases e:x=y
   ·simp [e]
   ·simp [e]
theorem zsf [Dfr] (xs ys:List ByteArray) (hx:xs.length≤4611686018427387904):zhi xs ys=some (decide (xs=ys)):=by
 rw [zqz]
 by_cases hl:xs.length=ys.length
 ·have h1:((xs.length:Int) != (ys.length:Int))=false:=by simp [hl]
  have:=zil xs ys hx hl false xs 0 rfl
  simp only [Int.natCast_zero,List.drop_zero] at this
  simp only [h1,cond_false,this,Option.bind_some]
  by_cases e:xs=ys<;>simp [e,Nat.beq]
 ·have h1:((xs.length:Int) != (ys.length:Int))=true:=by simp;omega
  have h2:xs≠ys:=fun e=>hl (by rw [e])
  simp [h1,h2]
theorem zik [Dfr] (xs:List ByteArray) (a:ByteArray) (b:Int) (hx:xs.length≤4611686018427387904):∀(r:List ByteArray) (i:Nat),xs.drop i=r→∃n:Int×Int,zdo xs a b (xs.length:Int) (i:Int)=some (if a∈r then (1,n.1) else (0,b))∧0≤n.1
 |[],i,h=>by
  obtain ⟨h1,h2⟩:=drop_nil h
  refine ⟨(0,0),?_,Int.le_refl _⟩
  rw [zeb]
  simp only [h2,cond_false]
  simp
 |x::r,i,h=>by
  obtain ⟨h1,h2,h3,h4,h5,h6⟩:=zan h
  obtain ⟨n,hn,hn0⟩:=zik xs a b hx r (i+1) h5
  by_cases e:a=x
  ·refine ⟨((i:Int),0),?_,by simp⟩
   rw [zeb]
   simp only [h2,h3,h4,cond_true,str_eq,e]
   simp
  ·refine ⟨n,?_,hn0⟩
   rw [zeb]
   simp only [h2,h3,h4,cond_true,str_eq,zen (show i<9223372036854775807 by omega),hn,decide_eq_false e,decide_eq_false (Ne.symm e),cond_false]
   simp [e]
theorem zoo [Dfr] (xs:List ByteArray) (a:ByteArray) (hx:xs.length≤4611686018427387904):zfd xs a=some (decide (a∈xs)):=by
 obtain ⟨n,hn,hn0⟩:=zik xs a 0 hx xs 0 rfl
 rw [Int.natCast_zero] at hn
 rw [znm,zqx]
 simp only [hn,Option.bind_some]
 by_cases e:a∈xs
 ·simp [e,Nat.beq,hn0]
 ·simp [e,Nat.beq]
theorem zkp [Dfr] (xs:List Int) (a:Int) (b:Int) (hx:xs.length≤4611686018427387904):∀(r:List Int) (i:Nat),xs.drop i=r→∃n:Int×Int,zeo xs a b (xs.length:Int) (i:Int)=some (if a∈r then (1,n.1) else (0,b))∧0≤n.1
 |[],i,h=>by
  obtain ⟨h1,h2⟩:=drop_nil h
  refine ⟨(0,0),?_,Int.le_refl _⟩
  rw [zfc]
  simp only [h2,cond_false]
  simp
 |x::r,i,h=>by
  obtain ⟨h1,h2,h3,h4,h5,h6⟩:=zan h
  obtain ⟨n,hn,hn0⟩:=zkp xs a b hx r (i+1) h5
  by_cases e:a=x
  ·refine ⟨((i:Int),0),?_,by simp⟩
   rw [zfc]
   simp only [h2,h3,h4,cond_true,int_eq,e]
   simp
  ·refine ⟨n,?_,hn0⟩
   rw [zfc]
   simp only [h2,h3,h4,cond_true,int_eq,zen (show i<9223372036854775807 by omega),hn,decide_eq_false e,decide_eq_false (Ne.symm e),cond_false]
   simp [e]
theorem zjt [Dfr] (xs:List Int) (a:Int) (hx:xs.length≤4611686018427387904):zep xs a=some (decide (a∈xs)):=by
 obtain ⟨n,hn,hn0⟩:=zkp xs a 0 hx xs 0 rfl
 rw [Int.natCast_zero] at hn
 rw [zra,zuz]
 simp only [hn,Option.bind_some]
 by_cases e:a∈xs
 ·simp [e,Nat.beq,hn0]
 ·simp [e,Nat.beq]
theorem zhm [Dfr] (xs:List Int) (f:FnV) (p:Int→Bool) (b:Int) (hx:xs.length≤4611686018427387904) (hp:∀x∈xs,dyn E f [.one (.int .i64 x)] .bool=some (p x)):∀(r:List Int) (i:Nat),xs.drop i=r→∃n:Int×Int,zde xs f b (xs.length:Int) (i:Int)=some (if r.any p then (1,n.1) else (0,b))∧0≤n.1
 |[],i,h=>by
  obtain ⟨h1,h2⟩:=drop_nil h
  refine ⟨(0,0),?_,Int.le_refl _⟩
  rw [zdw]
  simp only [h2,cond_false]
  simp
 |x::r,i,h=>by
  obtain ⟨h1,h2,h3,h4,h5,h6⟩:=zan h
  obtain ⟨n,hn,hn0⟩:=zhm xs f p b hx hp r (i+1) h5
  have hxm:x∈xs:=by
   have:x∈xs.drop i:=by rw [h];exact List.mem_cons_self ..
   exact List.mem_of_mem_drop this
  have hpx:=hp x hxm
  cases e:p x with
  |true =>
   refine ⟨((i:Int),0),?_,by simp⟩
   rw [zdw]
   simp only [h2,h3,h4,hpx,e,cond_true,Option.bind_some,List.any_cons,Bool.true_or,if_true]
  |false =>
   refine ⟨n,?_,hn0⟩
   rw [zdw]
   simp only [h2,h3,h4,hpx,e,cond_true,cond_false,Option.bind_some,List.any_cons,Bool.false_or,zen (show i<9223372036854775807 by omega),hn]
theorem znn [Dfr] (xs:List Int) (f:FnV) (p:Int→Bool) (hx:xs.length≤4611686018427387904) (hp:∀x∈xs,dyn E f [.one (.int .i64 x)] .bool=some (p x)):zet xs f=some (xs.any p):=by
 obtain ⟨n,hn,hn0⟩:=zhm xs f p 0 hx hp xs 0 rfl
 rw [Int.natCast_zero] at hn
 rw [zmu,zpq]
 simp only [hn,Option.bind_some]
 cases e:xs.any p with
 |true=>simp [Nat.beq,hn0]
 |false=>simp [Nat.beq]
theorem zhc [Dfr] (xs:List Mv) (a:Mv) (b:Int) (hx:xs.length≤4611686018427387904):∀(r:List Mv) (i:Nat),xs.drop i=r→∃n:Int×Int,zcs xs a b (xs.length:Int) (i:Int)=some (if a∈r then (1,n.1) else (0,b))∧0≤n.1
 |[],i,h=>by
  obtain ⟨h1,h2⟩:=drop_nil h
  refine ⟨(0,0),?_,Int.le_refl _⟩
  rw [zdp]
  simp only [h2,cond_false]
  simp
 |x::r,i,h=>by
  obtain ⟨h1,h2,h3,h4,h5,h6⟩:=zan h
  obtain ⟨n,hn,hn0⟩:=zhc xs a b hx r (i+1) h5
  by_cases e:a=x
  ·refine ⟨((i:Int),0),?_,by simp⟩
   rw [zdp]
   simp only [h2,h3,h4,cond_true,yut,e]
   simp
  ·refine ⟨n,?_,hn0⟩
   rw [zdp]
   simp only [h2,h3,h4,cond_true,yut,zen (show i<9223372036854775807 by omega),hn,decide_eq_false e,decide_eq_false (Ne.symm e),cond_false]
   simp [e]
theorem zmt [Dfr] (xs:List Mv) (a:Mv) (hx:xs.length≤4611686018427387904):zej xs a=some (decide (a∈xs)):=by
 obtain ⟨n,hn,hn0⟩:=zhc xs a 0 hx xs 0 rfl
 rw [Int.natCast_zero] at hn
 rw [zlu,zom]
 simp only [hn,Option.bind_some]
 by_cases e:a∈xs
 ·simp [e,Nat.beq,hn0]
 ·simp [e,Nat.beq]
theorem zmv [Dfr] (xs:List Tc) (h:xs.length≤1000000000):zcw xs=some xs:=by
 rw [zlv]
 unfold zbk
 rw [room (show xs.length*32≤140737488355328 by omega)]
 rfl
theorem zef [Dfr] (xs:List Tc) (f:FnV) (p:Tc→Bool) (b:Int) (hx:xs.length≤4611686018427387904) (hp:∀x∈xs,dyn E f [.agg [.slice 9 .str x.1 .no,.int .i64 x.2]] .bool=some (p x)):∀(r:List Tc) (i:Nat),xs.drop i=r→∃n:Int×Int,zbe xs f b (xs.length:Int) (i:Int)=some (if r.any p then (1,n.1) else (0,b))∧0≤n.1
 |[],i,h=>by
  obtain ⟨h1,h2⟩:=drop_nil h
  refine ⟨(0,0),?_,Int.le_refl _⟩
  rw [zbs]
  simp only [h2,cond_false]
  simp
 |x::r,i,h=>by
  obtain ⟨h1,h2,h3,h4,h5,h6⟩:=zan h
  obtain ⟨n,hn,hn0⟩:=zef xs f p b hx hp r (i+1) h5
  have hxm:x∈xs:=by
   have:x∈xs.drop i:=by rw [h];exact List.mem_cons_self ..
   exact List.mem_of_mem_drop this
  have hpx:=hp x hxm
  cases e:p x with
  |true =>
   refine ⟨((i:Int),0),?_,by simp⟩
   rw [zbs]
   simp only [h2,h3,h4,hpx,e,cond_true,Option.bind_some,List.any_cons,Bool.true_or,if_true]
  |false =>
   refine ⟨n,?_,hn0⟩
   rw [zbs]
   simp only [h2,h3,h4,hpx,e,cond_true,cond_false,Option.bind_some,List.any_cons,Bool.false_or,zen (show i<9223372036854775807 by omega),hn]
theorem zis [Dfr] (xs:List Tc) (f:FnV) (p:Tc→Bool) (hx:xs.length≤4611686018427387904) (hp:∀x∈xs,dyn E f [.agg [.slice 9 .str x.1 .no,.int .i64 x.2]] .bool=some (p x)):zch xs f=some (xs.any p):=by
 obtain ⟨n,hn,hn0⟩:=zef xs f p 0 hx hp xs 0 rfl
 rw [Int.natCast_zero] at hn
 rw [zhy,zjn]
 simp only [hn,Option.bind_some]
 cases e:xs.any p with
 |true=>simp [Nat.beq,hn0]
 |false=>simp [Nat.beq]
theorem zes [Dfr] (xs:List (List Nd)) (f:FnV) (p:List Nd→Bool) (b:Int) (hx:xs.length≤4611686018427387904) (hp:∀x∈xs,dyn E f [.one (.slice 68 (.pair (.int .i64) (.pair .str (.int .i64))) x .no)] .bool=some (p x)):∀(r:List (List Nd)) (i:Nat),xs.drop i=r→∃n:Int×Int,zbj xs f b (xs.length:Int) (i:Int)=some (if r.any p then (1,n.1) else (0,b))∧0≤n.1
 |[],i,h=>by
  obtain ⟨h1,h2⟩:=drop_nil h
  refine ⟨(0,0),?_,Int.le_refl _⟩
  rw [zby]
  simp only [h2,cond_false]
  simp
 |x::r,i,h=>by
  obtain ⟨h1,h2,h3,h4,h5,h6⟩:=zan h
  obtain ⟨n,hn,hn0⟩:=zes xs f p b hx hp r (i+1) h5
  have hxm:x∈xs:=by
   have:x∈xs.drop i:=by rw [h];exact List.mem_cons_self ..
   exact List.mem_of_mem_drop this
  have hpx:=hp x hxm
  cases e:p x with
  |true =>
   refine ⟨((i:Int),0),?_,by simp⟩
   rw [zby]
   simp only [h2,h3,h4,hpx,e,cond_true,Option.bind_some,List.any_cons,Bool.true_or,if_true]
  |false =>
   refine ⟨n,?_,hn0⟩
   rw [zby]
   simp only [h2,h3,h4,hpx,e,cond_true,cond_false,Option.bind_some,List.any_cons,Bool.false_or,zen (show i<9223372036854775807 by omega),hn]
theorem zjq [Dfr] (xs:List (List Nd)) (f:FnV) (p:List Nd→Bool) (hx:xs.length≤4611686018427387904) (hp:∀x∈xs,dyn E f [.one (.slice 68 (.pair (.int .i64) (.pair .str (.int .i64))) x .no)] .bool=some (p x)):zcy xs f=some (xs.any p):=by
 obtain ⟨n,hn,hn0⟩:=zes xs f p 0 hx hp xs 0 rfl
 rw [Int.natCast_zero] at hn
 rw [ziz,zkr]
 simp only [hn,Option.bind_some]
 cases e:xs.any p with
 |true=>simp [Nat.beq,hn0]
 |false=>simp [Nat.beq]
end Go.Proofs.YtjolkdjkhekbnaaGreatDoor.Sv
