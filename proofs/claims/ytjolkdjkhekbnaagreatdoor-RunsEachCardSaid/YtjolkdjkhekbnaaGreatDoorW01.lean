/- What the functions of signs compute (package sign, redressref01): in plain words. -/
import Derived.Test.YtjolkdjkhekbnaaGreatDoorW00
import Derived.Test.YtjolkdjkhekbnaaGreatDoorM7
import Derived.Test.YtjolkdjkhekbnaaGreatDoorM9
import Derived.Test.YtjolkdjkhekbnaaGreatDoorM3
namespace Go.Proofs.YtjolkdjkhekbnaaGreatDoor.Sv
open Go Go.Sv Go.Rd
theorem emp [Dfr]:(ByteArray.empty.toList==ByteArray.empty.toList)=true:=beq_self_eq_true _
theorem yde [Dfr] (x:Int):qnd x=some (zlw x):=by
 rw [qzn]
 unfold zlw
 by_cases h:x≥1
 ·rw [decide_eq_true h];simp
 ·rw [decide_eq_false h];rfl
theorem quh [Dfr] (x y:Int):qfq x y=some (bs x y):=by
 rw [qqm]
 simp only [yde,Option.bind_some,int_eq,bs]
 cases zlw x<;>cases zlw y<;>simp
 by_cases h1:x=2<;>by_cases h2:y=2<;>simp [h1,h2]
theorem zzw [Dfr] (x y:Int):zlm x y=some (ordN (cmpI x y)):=by
 rw [zxg,zqn,zqn]
 unfold cmpI
 by_cases h:x<y
 ·simp [h,ordN]
 ·by_cases h':x=y
  ·simp [h',ordN]
  ·have h2:y<x:=by omega
   simp [h,h',h2,ordN]
theorem zlb [Dfr] (x y:ByteArray):zie x y=some (ordN (cmpB x y)):=by
 rw [zsg,zlq,zlq]
 simp only [Option.bind_some,beq_self_eq_true,Bool.not_true,cond_false,yqv,str_eq]
 cases h:cmpB x y with
 |lt=>simp [ordN]
 |eq =>
  have e:=(ordB.eq x y).1 h
  simp [e,ordN]
 |gt =>
  have e:x≠y:=fun e=>by rw [e,ordB.rfl'] at h;cases h
  simp [e,ordN]
theorem qke [Dfr] (a b:Int):zxf [a,b]=some (if a=0 then b else a):=by
 rw [qkd,zkh,zkh,zkh]
 by_cases h:a=0
 ·by_cases h':b=0
  ·subst h;subst h';rfl
  ·subst h
   have e1:(ix [0,b] 0 != 0)=false:=rfl
   have e2:(ix [0,b] (w64 (0+1)) != 0)=true:=by show (b != 0)=true;simpa using h'
   simp only [e1,e2,cond_false,cond_true]
   rfl
 ·have e1:(ix [a,b] 0 != 0)=true:=by show (a != 0)=true;simpa using h
  simp only [e1,cond_true,if_neg h]
  rfl
theorem qrv [Dfr] (a b:Ordering):ordN (a.then b)=if ordN a=0 then ordN b else ordN a:=by cases a<;>rfl
theorem zhg [Dfr] (xs ys:List ByteArray) (hx:xs.length≤4611686018427387904):∀(r s:List ByteArray) (i:Nat),xs.drop i=r→ys.drop i=s→i≤xs.length→i≤ys.length→
 ∃e,zcu xs ys 0 xs (xs.length:Int) (i:Int)=some e∧(bif Nat.beq e.1 0 then (bif (decide ((e.2.1.length:Int)<(e.2.2.1.length:Int))) then (some (-1)) else (some 0)) else (some e.2.2.2))=some (ordN (cmpL cmpB r s))
 |[],s,i,h,k,hi,hj=>by
  obtain ⟨h1,h2⟩:=drop_nil h
  refine ⟨(0,(xs,ys,0)),?_,?_⟩
  ·rw [zbv]
   simp only [h2,cond_false]
  ·have hk:=congrArg List.length k
   rw [List.length_drop] at hk
   cases s with
   |nil =>
    rw [List.length_nil] at hk
    have e:decide ((xs.length:Int)<(ys.length:Int))=false:=decide_eq_false (by omega)
    simp only [e]
    rfl
   |cons y s =>
    rw [List.length_cons] at hk
    have e:decide ((xs.length:Int)<(ys.length:Int))=true:=decide_eq_true (by omega)
    simp only [e]
    rfl
 |x::r,[],i,h,k,hi,hj=>by
  obtain ⟨h1,h2,h3,h4,h5,h6⟩:=zan h
  obtain ⟨k1,k2⟩:=drop_nil k
  refine ⟨(1,(xs,ys,1)),?_,rfl⟩
  rw [zbv]
  simp only [h2,h3,cond_true,decide_eq_true (show (i:Int)≥(ys.length:Int) by omega)]
 |x::r,y::s,i,h,k,hi,hj=>by
  obtain ⟨h1,h2,h3,h4,h5,h6⟩:=zan h
  obtain ⟨k1,k2,k3,k4,k5,k6⟩:=zan k
  obtain ⟨e,he,hr⟩:=zhg xs ys hx r s (i+1) h5 k5 (by omega) (by omega)
  rw [cmpL,qrv]
  by_cases hc:ordN (cmpB x y)=0
  ·refine ⟨e,?_,by rw [if_pos hc];exact hr⟩
   rw [zbv]
   have e1:(ordN (cmpB x y) != 0)=false:=by simp [hc]
   simp only [h2,h3,h4,k3,k4,cond_true,decide_eq_false (show ¬(i:Int)≥(ys.length:Int) by omega),cond_false,zlb,Option.bind_some,e1,zen (show i<9223372036854775807 by omega),he]
  ·refine ⟨(1,(xs,ys,ordN (cmpB x y))),?_,by rw [if_neg hc];rfl⟩
   rw [zbv]
   have e1:(ordN (cmpB x y) != 0)=true:=by simpa using hc
   simp only [h2,h3,h4,k3,k4,cond_true,decide_eq_false (show ¬(i:Int)≥(ys.length:Int) by omega),cond_false,zlb,Option.bind_some,e1]
theorem zim [Dfr] (xs ys:List ByteArray) (hx:xs.length≤4611686018427387904):zea xs ys=some (ordN (cmpA xs ys)):=by
 obtain ⟨e,he,hr⟩:=zhg xs ys hx xs ys 0 rfl rfl (by omega) (by omega)
 rw [Int.natCast_zero] at he
 rw [zoq,he,Option.bind_some]
 exact hr
theorem zee [Dfr] (x y:Tc) (hx:x.1.length≤4611686018427387904):zcq x y=some (ordN (cmpT x y)):=by
 rw [zsd,zim _ _ hx,Option.bind_some,zzw,Option.bind_some,qke,Option.bind_some]
 show _=some (ordN (Ordering.then _ _))
 rw [qrv]
theorem qeo [Dfr] (x y:Tc) (hx:x.1.length≤4611686018427387904):zqs x y=some (ordN (cmpT x y)):=by
 rw [qcv,zee x y hx];rfl
theorem qxx [Dfr] (o:Ordering):(ordN o==0)=decide (o= .eq):=by cases o<;>rfl
theorem qmj [Dfr] (x y:Tc) (hx:x.1.length≤4611686018427387904):zwc x y=some (decide (cmpT x y= .eq)):=by
 rw [qiv,zee x y hx,Option.bind_some,qxx]
def zyf (l:List Tc):Prop:=∀x∈l,x.1.length≤4611686018427387904
theorem qel [Dfr] (l:List Tc) (hl:l.length≤1000000000) (hs:zyf l):zpl l=some (canon cmpT l):=by
 rw [qpr,zmv l hl,Option.bind_some]
 simp only [Option.bind_fun_some]
 exact qbs (u:=.pair (.slice 9 .str) (.int .i64)) ordT (by omega) (fun x hx y hy=>(zqr x.1 x.2 y.1 y.2).trans (zee x y (hs x hx)))
  (fun x hx y hy=>(qem x.1 x.2 y.1 y.2).trans (qmj x y (hs x hx)))
theorem qml [Dfr] (x y:Tc) (hx:x.1.length≤4611686018427387904):zwe x y=some (decide (cmpT x y= .eq)):=by
 rw [qix,zee x y hx,Option.bind_some,qxx]
theorem yth [Dfr] (l:List Tc) (t:Tc):(l.any fun x=>decide (cmpT x t= .eq))=decide (t∈l):=by
 rw [Bool.eq_iff_iff,List.any_eq_true,decide_eq_true_iff]
 constructor
 ·rintro ⟨x,hx,h⟩
  rw [decide_eq_true_iff,ordT.eq] at h
  rw [←h];exact hx
 ·exact fun h=>⟨t,h,by rw [decide_eq_true_iff,ordT.eq]⟩
theorem zwd [Dfr] (l:List Tc) (t:Tc) (hl:l.length≤1000000000) (hs:zyf l):zmn l t=some (decide (t∈l)):=by
 rw [qps,zis l _ (fun x=>decide (cmpT x t= .eq)) (by omega) (fun x hx=>(qen x.1 x.2 t).trans (qml x t (hs x hx))),Option.bind_some,yth]
theorem qpq [Dfr] (p q:Tc) (hl:p.1.length+q.1.length≤1000000000):zpk p q=some (zlc p q):=by
 rw [qmh]
 unfold zlc
 by_cases h:p.2=1
 ·have e:(p.2 != 1)=false:=by simp [h]
  rw [e,cond_false,zrb [p.1,q.1] (by simp only [zfl];omega) (by simp),if_pos h]
  simp
 ·have e:(p.2 != 1)=true:=by simpa using h
  rw [e,cond_true,zju p.1 (by omega),if_neg h]
  rfl
def zyy (a b:List ByteArray):Option (List (List ByteArray)):=if a.length+b.length≤1000000∧(zfg [] a b).length≤1000000 then some (mixS a b) else none
class yvy [Dfr]:Prop where
 eq:∀a b,Dfr.d_trace_Mix a b=zyy a b
def yui (l:List Qc):Prop:=∀x∈l,x.1.1.length≤4611686018427387904∧x.2.1.length≤4611686018427387904
theorem zny [Dfr] {m:Tm} (h:m.small):∀x∈m.tr,x.1.length≤6:=fun x hx=>Nat.le_trans (Tm.ygb hx) h.2
theorem yok [Dfr] {m:Tm} (h:m.small):m.big≤400000000:=Tm.yhu h.1 h.2
theorem yuh [Dfr] {m:Tm} (h:m.small):m.tr.length≤400000000∧m.pq.length≤400000000:=⟨Nat.le_trans (Tm.zdt m).1 (yok h),Nat.le_trans (Tm.zdt m).2 (yok h)⟩
def fewT (l:List Tc):Prop:=∀x∈l,x.1.length≤12
theorem fewT.short [Dfr] {l:List Tc} (h:fewT l):zyf l:=fun x hx=>by have:=h x hx;omega
def fewQ (l:List Qc):Prop:=∀x∈l,x.1.1.length≤12∧x.2.1.length≤12
theorem fewQ.short [Dfr] {l:List Qc} (h:fewQ l):yui l:=fun x hx=>by have:=h x hx;omega
def wfT (t:Tc):Prop:=(t.1.length≤reachBytes∧∀x∈t.1,x.size≤reachBytes)∧(Lit.int .i64 t.2).wf=true
def wfTs (l:List Tc):Prop:=l.length≤reachBytes∧∀x∈l,wfT x
theorem wfT.len [Dfr] {t:Tc} (h:wfT t):t.1.length≤140737488351232:=h.1.1
theorem wfTs.short [Dfr] {l:List Tc} (h:wfTs l):zyf l:=fun x hx=>by have:=(h.2 x hx).len;omega
def zvk (l:List Nd):Prop:=l.length≤24∧(l.countP fun x=>decide (x.1∈([1]:List Int)))≤6
instance (l:List Nd):Decidable (zvk l):=by unfold zvk;infer_instance
theorem qak [Dfr] {m:Tm}:zvk m.row↔m.small:=by
 unfold zvk Tm.small
 rw [Tm.zab,Tm.zjv]
noncomputable def trL (l:List Nd):List Tc:=match tmOf l with|some m=>m.tr|none=>[]
theorem qeq [Dfr] {m:Tm} (h:m.fine) (hs:m.size≤200):trL m.row=m.tr:=by
 unfold trL;rw [ziv.2 ⟨rfl,h,hs⟩]
noncomputable def qkv (l:List Nd):List Tc×Int:=if on (sOf l)=3 then (if zvk l then (trL l,0) else ([],70)) else ([],1)
theorem qse [Dfr] (l:List Nd):qav l=some (decide (zvk l)):=by
 rw [qoe]
 by_cases h:l.length≤24
 ·rw [decide_eq_true (show (l.length:Int)≤24 by omega),cond_true,zrj l [1] (by omega) (by simp),Option.bind_some]
  exact congrArg some (decide_eq_decide.2 (by unfold zvk;omega))
 ·rw [decide_eq_false (show ¬(l.length:Int)≤24 by omega),cond_false,decide_eq_false (fun h':zvk l=>h h'.1)]
theorem qap [Dfr] {m:Tm} (hf:m.fine) (hz:m.size≤200) (ho:m.po=true) (hs:m.small):qkv m.row=(m.tr,0):=by
 unfold qkv
 rw [ydo hf hz,if_pos (of_decide_eq_true ((Tm.ykg m).symm.trans ho)),if_pos (qak.2 hs),qeq hf hz]
end Go.Proofs.YtjolkdjkhekbnaaGreatDoor.Sv
