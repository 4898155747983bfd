/- Meanings: the traces of what is plain, the pairs of what is paired; how many there are. Plain Lean, no program in sight. -/
import Derived.Test.YtjolkdjkhekbnaaGreatDoorM4
import Derived.Test.YtjolkdjkhekbnaaGreatDoorM7
namespace Go.Rd
open Go Go.Sv
abbrev Qc:=Tc×Tc
def behT (p q:Tc):Tc:=(p.1++q.1,q.2)
def qhj (p q:Tc):Tc:=if p.2=2 then behT p q else p
def goF (x y:Tc):Qc:=(x,if x.2=1 then y else ([],1))
def seqF (a b:Qc):Qc:=if a.1.2=1 then (zlc a.1 b.1,zlc b.2 a.2) else a
def parF (a b:Qc):List Qc:=(parE (bs a.1.2 b.1.2) a.1.1 b.1.1).flatMap fun p=>(parE (bs a.2.2 b.2.2) a.2.1 b.2.1).map fun q=>(p,q)
def blkF (x:Qc):List Tc:=if x.1.2=1 then [x.1] else if x.1.2=2 then [behT x.1 x.2] else []
def qcr {α β γ:Type} (A:List α) (B:List β) (f:α→β→List γ):List γ:=A.flatMap fun a=>B.flatMap fun b=>f a b
def zsc {α β γ:Type} (A:List α) (B:List β) (f:α→β→γ):List γ:=qcr A B fun a b=>[f a b]
theorem qau {α β γ:Type} {A:List α} {B:List β} {f:α→β→List γ} {z:γ}:z∈qcr A B f↔∃a∈A,∃b∈B,z∈f a b:=by
 unfold qcr
 simp only [List.mem_flatMap]
theorem zmi {α β γ:Type} {A:List α} {B:List β} {f:α→β→γ} {z:γ}:z∈zsc A B f↔∃a∈A,∃b∈B,z=f a b:=by
 unfold zsc
 simp only [qau,List.mem_singleton]
theorem zib {α γ:Type} {f:α→List γ} {k:Nat}:∀{A:List α},(∀a∈A,(f a).length≤k)→(A.flatMap f).length≤A.length*k
 |[],_=>by simp
 |a::A,h=>by
  have h1:=h a (List.mem_cons_self ..)
  have h2:=zib (A:=A) fun b hb=>h b (List.mem_cons_of_mem _ hb)
  simp only [List.flatMap_cons,List.length_append,List.length_cons,Nat.add_mul,Nat.one_mul]
  omega
theorem qax {α β γ:Type} {A:List α} {B:List β} {f:α→β→List γ} {k:Nat} (h:∀a∈A,∀b∈B,(f a b).length≤k):(qcr A B f).length≤A.length*(B.length*k) :=
 zib fun a ha=>zib fun b hb=>h a ha b hb
theorem qle {α β γ:Type} {A:List α} {B:List β} {f:α→β→γ}:(zsc A B f).length≤A.length*B.length:=by
 have:=qax (A:=A) (B:=B) (f:=fun a b=>[f a b]) (k:=1) fun a _ b _=>by simp
 rwa [Nat.mul_one] at this
namespace Tm
def sem:Tm→List Tc×List Qc
 |act s=>(canon cmpT [([s],1)],[])
 |skip=>(canon cmpT [([],1)],[])
 |throw=>(canon cmpT [([],2)],[])
 |yield=>(canon cmpT [([],1),([],3)],[])
 |over s=>(canon cmpT [([],s)],[])
 |seq a b=>(canon cmpT (zsc a.sem.1 b.sem.1 zlc),canon cmpQ (zsc a.sem.2 b.sem.2 seqF))
 |alt a b=>(canon cmpT (a.sem.1++b.sem.1),canon cmpQ (a.sem.2++b.sem.2))
 |par a b=>(canon cmpT (qcr a.sem.1 b.sem.1 fun p q=>parE (bs p.2 q.2) p.1 q.1),canon cmpQ (qcr a.sem.2 b.sem.2 parF))
 |hand a b=>(canon cmpT (zsc a.sem.1 b.sem.1 qhj),[])
 |block a=>(canon cmpT (a.sem.2.flatMap blkF),[])
 |pair a b=>([],canon cmpQ (zsc a.sem.1 b.sem.1 goF++[(([],3),([],1))]))
 |going a b=>([],canon cmpQ (zsc a.sem.1 b.sem.1 goF))
 |stack a c=>([],canon cmpQ (zsc a.sem.2 c.sem.1 fun x q=>(x.1,zlc x.2 q)))
 |fin s c=>([],canon cmpQ (c.sem.1.map fun q=>(([],s),q)))
def tr (m:Tm):List Tc:=m.sem.1
def pq (m:Tm):List Qc:=m.sem.2
theorem zus {s:ByteArray} {x:Tc}:x∈(act s).tr↔x=([s],1):=(zbn ordT).trans List.mem_singleton
theorem zke {x:Tc}:x∈skip.tr↔x=([],1):=(zbn ordT).trans List.mem_singleton
theorem qcl {x:Tc}:x∈throw.tr↔x=([],2):=(zbn ordT).trans List.mem_singleton
theorem zkw {x:Tc}:x∈yield.tr↔x=([],1)∨x=([],3):=(zbn ordT).trans (by simp)
theorem zaf {s:Int} {x:Tc}:x∈(over s).tr↔x=([],s):=(zbn ordT).trans List.mem_singleton
theorem zec {a b:Tm} {x:Tc}:x∈(seq a b).tr↔∃p∈a.tr,∃q∈b.tr,x=zlc p q:=(zbn ordT).trans zmi
theorem zqd {a b:Tm} {x:Tc}:x∈(alt a b).tr↔x∈a.tr∨x∈b.tr:=(zbn ordT).trans List.mem_append
theorem zdi {a b:Tm} {x:Tc}:x∈(par a b).tr↔∃p∈a.tr,∃q∈b.tr,Mx p.1 q.1 x.1∧x.2=bs p.2 q.2:=by
 refine (zbn ordT).trans (qau.trans ?_)
 simp only [zyz];rfl
theorem zel {a b:Tm} {x:Tc}:x∈(hand a b).tr↔∃p∈a.tr,∃q∈b.tr,x=qhj p q:=(zbn ordT).trans zmi
theorem ymi {z:Qc} {x:Tc}:x∈blkF z↔(z.1.2=1∧x=z.1)∨(z.1.2=2∧x=behT z.1 z.2):=by
 unfold blkF
 split
 ·rename_i h;simp [h]
 ·rename_i h
  split
  ·rename_i h2;simp [h2]
  ·rename_i h2;simp [h,h2]
theorem zcf {a:Tm} {x:Tc}:x∈(block a).tr↔∃z∈a.pq,(z.1.2=1∧x=z.1)∨(z.1.2=2∧x=behT z.1 z.2):=by
 refine (zbn ordT).trans ?_
 simp only [List.mem_flatMap,ymi];rfl
theorem zfs {a b:Tm} {x:Qc}:x∈(seq a b).pq↔∃p∈a.pq,∃q∈b.pq,x=seqF p q:=(zbn ordQ).trans zmi
theorem zqe {a b:Tm} {x:Qc}:x∈(alt a b).pq↔x∈a.pq∨x∈b.pq:=(zbn ordQ).trans List.mem_append
theorem ymh {a b x:Qc}:x∈parF a b↔(Mx a.1.1 b.1.1 x.1.1∧x.1.2=bs a.1.2 b.1.2)∧Mx a.2.1 b.2.1 x.2.1∧x.2.2=bs a.2.2 b.2.2:=by
 unfold parF
 simp only [List.mem_flatMap,List.mem_map]
 constructor
 ·rintro ⟨p,hp,q,hq,rfl⟩
  exact ⟨zyz.1 hp,zyz.1 hq⟩
 ·rintro ⟨h1,h2⟩
  exact ⟨x.1,zyz.2 h1,x.2,zyz.2 h2,rfl⟩
theorem zed {a b:Tm} {x:Qc}:x∈(par a b).pq↔∃p∈a.pq,∃q∈b.pq,(Mx p.1.1 q.1.1 x.1.1∧x.1.2=bs p.1.2 q.1.2)∧Mx p.2.1 q.2.1 x.2.1∧x.2.2=bs p.2.2 q.2.2:=by
 refine (zbn ordQ).trans (qau.trans ?_)
 simp only [ymh];rfl
theorem znb {a b:Tm} {x:Qc}:x∈(pair a b).pq↔(∃p∈a.tr,∃q∈b.tr,x=goF p q)∨x=(([],3),([],1)):=by
 refine (zbn ordQ).trans (List.mem_append.trans ?_)
 rw [zmi,List.mem_singleton];rfl
theorem zda {a b:Tm} {x:Qc}:x∈(going a b).pq↔∃p∈a.tr,∃q∈b.tr,x=goF p q:=(zbn ordQ).trans zmi
theorem zeg {a c:Tm} {x:Qc}:x∈(stack a c).pq↔∃p∈a.pq,∃q∈c.tr,x=(p.1,zlc p.2 q):=(zbn ordQ).trans zmi
theorem zaq {s:Int} {c:Tm} {x:Qc}:x∈(fin s c).pq↔∃q∈c.tr,x=(([],s),q):=by
 refine (zbn ordQ).trans (List.mem_map.trans ?_)
 constructor
 ·rintro ⟨q,h,rfl⟩;exact ⟨q,h,rfl⟩
 ·rintro ⟨q,h,rfl⟩;exact ⟨q,h,rfl⟩
theorem ycv:∀m:Tm,Srt cmpT m.tr∧Srt cmpQ m.pq
 |act s|skip|throw|yield|over s|hand a b|block a=>⟨zmq ordT _,.nil⟩
 |seq a b|alt a b|par a b=>⟨zmq ordT _,zmq ordQ _⟩
 |pair a b|going a b|stack a b|fin s a=>⟨.nil,zmq ordQ _⟩
theorem qxq (m:Tm):Srt cmpT m.tr:=(ycv m).1
theorem yog (m:Tm):Srt cmpQ m.pq:=(ycv m).2
theorem zsi {a b:Tm} (h:∀x,x∈a.tr↔x∈b.tr):a.tr=b.tr:=qfb ordT (qxq a) (qxq b) h
theorem zvq {a b:Tm} (h:∀x,x∈a.pq↔x∈b.pq):a.pq=b.pq:=qfb ordQ (yog a) (yog b) h
theorem ymf {α:Type}:∀(p q:List α),∃r,Mx p q r
 |[],q=>⟨q,Mx.right q⟩
 |a::p,q=>by
  obtain ⟨r,h⟩:=ymf p q
  exact ⟨a::r,.l h⟩
def s12 (s:Int):Prop:=s=1∨s=2
instance (s:Int):Decidable (s12 s):=by unfold s12;infer_instance
theorem ydp {a b:Int} (ha:s12 a) (hb:s12 b):s12 (bs a b):=by
 rcases ha with rfl|rfl<;>rcases hb with rfl|rfl<;>decide
theorem qnk {p q:Tc} (hp:s12 p.2) (hq:s12 q.2):s12 (zlc p q).2:=by
 unfold zlc
 split
 ·exact hq
 ·exact hp
theorem zts:∀m:Tm,(m.pl=true→∃x∈m.tr,s12 x.2)∧(m.pa=true→∃x∈m.pq,s12 x.1.2∧s12 x.2.2)
 |act s=>⟨fun _=>⟨_,zus.2 rfl,.inl rfl⟩,fun h=>by simp [pa] at h⟩
 |skip=>⟨fun _=>⟨_,zke.2 rfl,.inl rfl⟩,fun h=>by simp [pa] at h⟩
 |throw=>⟨fun _=>⟨_,qcl.2 rfl,.inr rfl⟩,fun h=>by simp [pa] at h⟩
 |yield=>⟨fun _=>⟨_,zkw.2 (.inl rfl),.inl rfl⟩,fun h=>by simp [pa] at h⟩
 |over s=>⟨fun h=>by simp [pl] at h,fun h=>by simp [pa] at h⟩
 |seq a b=>by
  refine ⟨fun h=> ?_,fun h=> ?_⟩
  ·simp only [pl,Bool.and_eq_true] at h
   obtain ⟨p,hp,hp2⟩:=(zts a).1 h.1
   obtain ⟨q,hq,hq2⟩:=(zts b).1 h.2
   exact ⟨_,zec.2 ⟨p,hp,q,hq,rfl⟩,qnk hp2 hq2⟩
  ·simp only [pa,Bool.and_eq_true] at h
   obtain ⟨p,hp,hp2,hp3⟩:=(zts a).2 h.1
   obtain ⟨q,hq,hq2,hq3⟩:=(zts b).2 h.2
   refine ⟨_,zfs.2 ⟨p,hp,q,hq,rfl⟩,?_⟩
   unfold seqF
   split
   ·exact ⟨qnk hp2 hq2,qnk hq3 hp3⟩
   ·exact ⟨hp2,hp3⟩
 |alt a b=>by
  refine ⟨fun h=> ?_,fun h=> ?_⟩
  ·simp only [pl,Bool.and_eq_true] at h
   obtain ⟨p,hp,hp2⟩:=(zts a).1 h.1
   exact ⟨_,zqd.2 (.inl hp),hp2⟩
  ·simp only [pa,Bool.and_eq_true] at h
   obtain ⟨p,hp,hp2⟩:=(zts a).2 h.1
   exact ⟨_,zqe.2 (.inl hp),hp2⟩
 |par a b=>by
  refine ⟨fun h=> ?_,fun h=> ?_⟩
  ·simp only [pl,Bool.and_eq_true] at h
   obtain ⟨p,hp,hp2⟩:=(zts a).1 h.1
   obtain ⟨q,hq,hq2⟩:=(zts b).1 h.2
   obtain ⟨r,hr⟩:=ymf p.1 q.1
   exact ⟨(r,bs p.2 q.2),zdi.2 ⟨p,hp,q,hq,hr,rfl⟩,ydp hp2 hq2⟩
  ·simp only [pa,Bool.and_eq_true] at h
   obtain ⟨p,hp,hp2,hp3⟩:=(zts a).2 h.1
   obtain ⟨q,hq,hq2,hq3⟩:=(zts b).2 h.2
   obtain ⟨r,hr⟩:=ymf p.1.1 q.1.1
   obtain ⟨s,hs⟩:=ymf p.2.1 q.2.1
   exact ⟨((r,bs p.1.2 q.1.2),(s,bs p.2.2 q.2.2)),zed.2 ⟨p,hp,q,hq,⟨hr,rfl⟩,hs,rfl⟩,ydp hp2 hq2,ydp hp3 hq3⟩
 |hand a b=>by
  refine ⟨fun h=> ?_,fun h=>by simp [pa] at h⟩
  simp only [pl,Bool.and_eq_true] at h
  obtain ⟨p,hp,hp2⟩:=(zts a).1 h.1
  obtain ⟨q,hq,hq2⟩:=(zts b).1 h.2
  refine ⟨_,zel.2 ⟨p,hp,q,hq,rfl⟩,?_⟩
  unfold qhj
  split
  ·exact hq2
  ·exact hp2
 |block a=>by
  refine ⟨fun h=> ?_,fun h=>by simp [pa] at h⟩
  simp only [pl] at h
  obtain ⟨z,hz,hz2,hz3⟩:=(zts a).2 h
  rcases hz2 with h1|h2
  ·exact ⟨_,zcf.2 ⟨z,hz,.inl ⟨h1,rfl⟩⟩,.inl h1⟩
  ·exact ⟨_,zcf.2 ⟨z,hz,.inr ⟨h2,rfl⟩⟩,hz3⟩
 |pair a b=>by
  refine ⟨fun h=>by simp [pl] at h,fun h=> ?_⟩
  simp only [pa,Bool.and_eq_true] at h
  obtain ⟨p,hp,hp2⟩:=(zts a).1 h.1
  obtain ⟨q,hq,hq2⟩:=(zts b).1 h.2
  refine ⟨_,znb.2 (.inl ⟨p,hp,q,hq,rfl⟩),hp2,?_⟩
  show s12 (if p.2=1 then q else ([],1)).2
  split
  ·exact hq2
  ·exact .inl rfl
 |going a b|stack a b|fin s a=>⟨fun h=>by simp [pl] at h,fun h=>by simp [pa] at h⟩
theorem yjx {m:Tm} (h:m.pl=true):∃x,x∈m.tr:=by obtain ⟨x,hx,_⟩:=(zts m).1 h;exact ⟨x,hx⟩
theorem ywf {m:Tm} (h:m.pa=true):∃x,x∈m.pq:=by obtain ⟨x,hx,_⟩:=(zts m).2 h;exact ⟨x,hx⟩
def nm:Tm→List ByteArray
 |act s=>[s]
 |skip|throw|yield|over _=>[]
 |seq a b|alt a b|par a b|hand a b|pair a b|going a b|stack a b=>a.nm++b.nm
 |block a|fin _ a=>a.nm
def wsum (f:ByteArray→Nat) (l:List ByteArray):Nat:=(l.map f).sum
section
variable {f:ByteArray→Nat}
theorem qmb:wsum f []=0:=rfl
theorem zco (l m:List ByteArray):wsum f (l++m)=wsum f l+wsum f m:=by simp [wsum]
theorem qtu {p q r:List ByteArray} (h:Mx p q r):wsum f r=wsum f p+wsum f q:=by
 induction h with
 |nil=>rfl
 |l _ ih=>simp only [wsum,List.map_cons,List.sum_cons] at ih ⊢;omega
 |r _ ih=>simp only [wsum,List.map_cons,List.sum_cons] at ih ⊢;omega
theorem zxn (p q:Tc):wsum f (zlc p q).1≤wsum f p.1+wsum f q.1:=by
 unfold zlc
 split
 ·rw [zco];exact Nat.le_refl _
 ·omega
theorem zdj:∀m:Tm,(∀x∈m.tr,wsum f x.1≤wsum f m.nm)∧(∀x∈m.pq,wsum f x.1.1+wsum f x.2.1≤wsum f m.nm)
 |act s=>⟨fun x hx=>by rw [zus.1 hx];exact Nat.le_refl _,fun x hx=>by cases hx⟩
 |skip=>⟨fun x hx=>by rw [zke.1 hx];exact Nat.le_refl _,fun x hx=>by cases hx⟩
 |throw=>⟨fun x hx=>by rw [qcl.1 hx];exact Nat.le_refl _,fun x hx=>by cases hx⟩
 |yield=>⟨fun x hx=>by rcases zkw.1 hx with h|h<;>rw [h]<;>exact Nat.le_refl _,fun x hx=>by cases hx⟩
 |over s=>⟨fun x hx=>by rw [zaf.1 hx];exact Nat.le_refl _,fun x hx=>by cases hx⟩
 |seq a b=>⟨fun x hx=>by
  obtain ⟨p,hp,q,hq,rfl⟩:=zec.1 hx
  have h1:=(zdj a).1 p hp
  have h2:=(zdj b).1 q hq
  have h3:=zxn (f:=f) p q
  rw [nm,zco];omega,fun x hx=>by
  obtain ⟨p,hp,q,hq,rfl⟩:=zfs.1 hx
  have h1:=(zdj a).2 p hp
  have h2:=(zdj b).2 q hq
  have h3:=zxn (f:=f) p.1 q.1
  have h4:=zxn (f:=f) q.2 p.2
  rw [nm,zco]
  unfold seqF
  split
  ·show wsum f (zlc p.1 q.1).1+wsum f (zlc q.2 p.2).1≤_
   omega
  ·omega⟩
 |alt a b=>⟨fun x hx=>by
  rw [nm,zco]
  rcases zqd.1 hx with hx|hx
  ·have:=(zdj a).1 x hx;omega
  ·have:=(zdj b).1 x hx;omega,fun x hx=>by
  rw [nm,zco]
  rcases zqe.1 hx with hx|hx
  ·have:=(zdj a).2 x hx;omega
  ·have:=(zdj b).2 x hx;omega⟩
 |par a b=>⟨fun x hx=>by
  obtain ⟨p,hp,q,hq,e,_⟩:=zdi.1 hx
  have h1:=(zdj a).1 p hp
  have h2:=(zdj b).1 q hq
  rw [nm,zco,qtu e];omega,fun x hx=>by
  obtain ⟨p,hp,q,hq,⟨e1,_⟩,e2,_⟩:=zed.1 hx
  have h1:=(zdj a).2 p hp
  have h2:=(zdj b).2 q hq
  rw [nm,zco,qtu e1,qtu e2];omega⟩
 |hand a b=>⟨fun x hx=>by
  obtain ⟨p,hp,q,hq,rfl⟩:=zel.1 hx
  have h1:=(zdj a).1 p hp
  have h2:=(zdj b).1 q hq
  rw [nm,zco]
  unfold qhj
  split
  ·show wsum f (p.1++q.1)≤_
   rw [zco];omega
  ·omega,fun x hx=>by cases hx⟩
 |block a=>⟨fun x hx=>by
  obtain ⟨z,hz,⟨_,rfl⟩|⟨_,rfl⟩⟩:=zcf.1 hx
  ·have:=(zdj a).2 z hz;rw [nm];omega
  ·have:=(zdj a).2 z hz
   rw [nm]
   show wsum f (z.1.1++z.2.1)≤_
   rw [zco];omega,fun x hx=>by cases hx⟩
 |pair a b=>⟨fun x hx=>by (cases hx),fun x hx=>by
  rw [nm,zco]
  rcases znb.1 hx with ⟨p,hp,q,hq,rfl⟩|rfl
  ·have h1:=(zdj a).1 p hp
   have h2:=(zdj b).1 q hq
   show wsum f p.1+wsum f (if p.2=1 then q else ([],1)).1≤_
   split
   ·omega
   ·rw [qmb];omega
  ·exact Nat.zero_le _⟩
 |going a b=>⟨fun x hx=>by (cases hx),fun x hx=>by
  rw [nm,zco]
  obtain ⟨p,hp,q,hq,rfl⟩:=zda.1 hx
  have h1:=(zdj a).1 p hp
  have h2:=(zdj b).1 q hq
  show wsum f p.1+wsum f (if p.2=1 then q else ([],1)).1≤_
  split
  ·omega
  ·rw [qmb];omega⟩
 |stack a c=>⟨fun x hx=>by (cases hx),fun x hx=>by
  obtain ⟨p,hp,q,hq,rfl⟩:=zeg.1 hx
  have h1:=(zdj a).2 p hp
  have h2:=(zdj c).1 q hq
  have h3:=zxn (f:=f) p.2 q
  rw [nm,zco]
  show wsum f p.1.1+wsum f (zlc p.2 q).1≤_
  omega⟩
 |fin s c=>⟨fun x hx=>by (cases hx),fun x hx=>by
  obtain ⟨q,hq,rfl⟩:=zaq.1 hx
  have h2:=(zdj c).1 q hq
  rw [nm]
  show wsum f []+wsum f q.1≤_
  rw [qmb];omega⟩
end
theorem zxo (l:List ByteArray):wsum (fun _=>1) l=l.length:=by
 induction l with
 |nil=>rfl
 |cons a l ih=>simp only [wsum,List.map_cons,List.sum_cons,List.length_cons] at ih ⊢;omega
theorem ygb {m:Tm} {x:Tc} (h:x∈m.tr):x.1.length≤m.nm.length:=by
 have:=(zdj (f:=fun _=>1) m).1 x h
 rwa [zxo,zxo] at this
theorem ypx {m:Tm} {x:Qc} (h:x∈m.pq):x.1.1.length+x.2.1.length≤m.nm.length:=by
 have:=(zdj (f:=fun _=>1) m).2 x h
 rwa [zxo,zxo,zxo] at this
def fct:Nat→Nat
 |0=>1
 |n+1=>(n+1)*fct n
theorem qbc:∀n,1≤fct n
 |0=>Nat.le_refl _
 |n+1=>by
  have:=qbc n
  rw [fct,Nat.succ_mul];omega
theorem qyp:∀{m n:Nat},m≤n→fct m≤fct n
 |m,0,h=>by rw [Nat.le_zero.1 h];exact Nat.le_refl _
 |m,n+1,h=>by
  rcases Nat.lt_or_ge n m with h1|h1
  ·rw [show m=n+1 by omega];exact Nat.le_refl _
  ·have:=qyp h1
   rw [fct,Nat.succ_mul];omega
theorem qbh:∀m n:Nat,chN m n*(fct m*fct n)=fct (m+n)
 |0,n=>by rw [chN,fct,Nat.zero_add];simp
 |m+1,0=>by rw [zrx,Nat.add_zero];simp [fct]
 |m+1,n+1=>by
  have h1:=qbh m (n+1)
  have h2:=qbh (m+1) n
  rw [chN,Nat.add_mul]
  have e1:chN m (n+1)*(fct (m+1)*fct (n+1))=(m+1)*fct (m+n+1):=by
   rw [show m+n+1=m+(n+1) by omega,←h1,fct]
   simp only [Nat.mul_assoc,Nat.mul_left_comm]
  have e2:chN (m+1) n*(fct (m+1)*fct (n+1))=(n+1)*fct (m+n+1):=by
   rw [show m+n+1=m+1+n by omega,←h2,show fct (n+1)=(n+1)*fct n from rfl]
   simp only [Nat.mul_assoc,Nat.mul_left_comm]
  rw [e1,e2,←Nat.add_mul,show m+1+(n+1)=(m+n+1)+1 by omega]
  rfl
theorem ysu (m n:Nat):fct m*fct n≤fct (m+n):=by
 rw [←qbh m n]
 have:1≤chN m n:=by
  have h1:=qbh m n
  have h2:=qbc (m+n)
  rcases Nat.eq_zero_or_pos (chN m n) with h|h
  ·rw [h,Nat.zero_mul] at h1;omega
  ·exact h
 exact Nat.le_mul_of_pos_left _ this
theorem qeg:∀m n,chN m n=chN n m
 |0,n=>by rw [zrx,chN]
 |m+1,0=>by rw [zrx,chN]
 |m+1,n+1=>by rw [chN,chN,qeg m (n+1),qeg (m+1) n];omega
theorem ytb:∀m n,chN m n≤chN m (n+1)
 |0,n=>by rw [chN,chN];exact Nat.le_refl _
 |m+1,0=>by rw [zrx,chN];have:=qbh m 1;have h2:=zrx (m+1);omega
 |m+1,n+1=>by
  have h1:=ytb m (n+1)
  have h2:=ytb (m+1) n
  rw [chN,show chN (m+1) (n+1+1)=chN m (n+1+1)+chN (m+1) (n+1) from by rw [chN]]
  omega
theorem qef {m m' n n':Nat} (hm:m≤m') (hn:n≤n'):chN m n≤chN m' n':=by
 have r:∀{a b c:Nat},b≤c→chN a b≤chN a c:=fun {a b c} h=>by
  obtain ⟨d,rfl⟩:=Nat.exists_eq_add_of_le h
  induction d with
  |zero=>exact Nat.le_refl _
  |succ d ih=>exact Nat.le_trans (ih (by omega)) (ytb a (b+d))
 refine Nat.le_trans (r hn) ?_
 rw [qeg m,qeg m']
 exact r hm
theorem qwl:∀(m n m' n':Nat),chN m n*chN m' n'≤chN (m+m') (n+n')
 |0,n,m',n'=>by rw [chN,Nat.one_mul];exact qef (by omega) (by omega)
 |m+1,0,m',n'=>by rw [zrx,Nat.one_mul];exact qef (by omega) (by omega)
 |m+1,n+1,m',n'=>by
  have h1:=qwl m (n+1) m' n'
  have h2:=qwl (m+1) n m' n'
  rw [chN,Nat.add_mul,show m+1+m'=m+m'+1 by omega,show n+1+n'=n+n'+1 by omega,chN]
  rw [show n+1+n'=n+n'+1 by omega] at h1
  rw [show m+1+m'=m+m'+1 by omega] at h2
  omega
def cw:Tm→Nat
 |act _|skip|throw|over _=>1
 |yield=>2
 |seq a b|par a b|hand a b|going a b|stack a b=>a.cw*b.cw
 |alt a b=>a.cw+b.cw
 |pair a b=>a.cw*b.cw+1
 |block a|fin _ a=>a.cw
def leaves:Tm→Nat
 |act _|skip|throw|over _|yield=>1
 |seq a b|par a b|hand a b|going a b|stack a b|alt a b|pair a b=>a.leaves+b.leaves
 |block a|fin _ a=>a.leaves
theorem zbg:∀m:Tm,2*m.leaves≤m.size+1
 |act _|skip|throw|over _|yield=>Nat.le_refl _
 |seq a b=>by have:=zbg a;have:=zbg b;rw [leaves,zaw];omega
 |par a b=>by have:=zbg a;have:=zbg b;rw [leaves,zbq];omega
 |hand a b=>by have:=zbg a;have:=zbg b;rw [leaves,zba];omega
 |going a b=>by have:=zbg a;have:=zbg b;rw [leaves,zce];omega
 |stack a b=>by have:=zbg a;have:=zbg b;rw [leaves,zdh];omega
 |alt a b=>by have:=zbg a;have:=zbg b;rw [leaves,zyd];omega
 |pair a b=>by have:=zbg a;have:=zbg b;rw [leaves,qfp];omega
 |block a=>by have:=zbg a;rw [leaves,zam];omega
 |fin _ a=>by have:=zbg a;rw [leaves,zcl];omega
theorem qhw:∀m:Tm,1≤m.cw
 |act _|skip|throw|over _=>Nat.le_refl _
 |yield=>by decide
 |seq a b|par a b|hand a b|going a b|stack a b=>by rw [cw];exact Nat.mul_pos (qhw a) (qhw b)
 |alt a b=>by have:=qhw a;rw [cw];omega
 |pair a b=>by rw [cw];omega
 |block a|fin _ a=>by rw [cw];exact qhw a
theorem qvd {x y a b:Nat} (hx:x+1≤a) (hy:y+1≤b):x*y+x+y+1≤a*b:=by
 have:=Nat.mul_le_mul hx hy
 have e:(x+1)*(y+1)=x*y+x+y+1:=by rw [Nat.add_mul,Nat.mul_add];omega
 omega
theorem qtc:∀m:Tm,m.cw+1≤3 ^ m.leaves
 |act _|skip|throw|over _=>by show 1+1≤3 ^ 1;decide
 |yield=>by decide
 |seq a b|par a b|hand a b|going a b|stack a b=>by
  have h:=qvd (qtc a) (qtc b)
  rw [cw,leaves,Nat.pow_add];omega
 |alt a b=>by
  have h:=qvd (qtc a) (qtc b)
  have h1:=qhw a
  have h2:=qhw b
  rw [cw,leaves,Nat.pow_add];omega
 |pair a b=>by
  have h:=qvd (qtc a) (qtc b)
  have h1:=qhw a
  rw [cw,leaves,Nat.pow_add];omega
 |block a|fin _ a=>by rw [cw,leaves];exact qtc a
def big (m:Tm):Nat:=m.cw*fct m.nm.length
theorem yhu {m:Tm} (h1:m.size≤24) (h2:m.nm.length≤6):m.big≤400000000:=by
 have h3:=zbg m
 have h4:=qtc m
 have h5:3 ^ m.leaves≤3 ^ 12:=Nat.pow_le_pow_right (by omega) (by omega)
 have h6:=qyp h2
 have:m.cw≤531440:=by
  have:3 ^ 12=531441:=by decide
  omega
 have h7:m.big≤531440*fct 6:=Nat.mul_le_mul this h6
 have:fct 6=720:=rfl
 omega
theorem yht (a b:Tm) (x:Nat) (hx:x≤a.nm.length+b.nm.length):a.big*b.big≤a.cw*b.cw*fct (a.nm.length+b.nm.length):=by
 unfold big
 rw [Nat.mul_mul_mul_comm]
 exact Nat.mul_le_mul_left _ (ysu _ _)
theorem ytg {a b m:Tm} (hn:m.nm=a.nm++b.nm) (hc:a.cw*b.cw≤m.cw):a.big*b.big≤m.big:=by
 refine Nat.le_trans (yht a b 0 (by omega)) ?_
 unfold big
 rw [hn,List.length_append]
 exact Nat.mul_le_mul_right _ hc
theorem yhw {a b m:Tm} (hn:m.nm=a.nm++b.nm) (hc:m.cw=a.cw+b.cw):a.big+b.big≤m.big:=by
 unfold big
 rw [hn,hc,List.length_append,Nat.add_mul]
 exact Nat.add_le_add (Nat.mul_le_mul_left _ (qyp (by omega))) (Nat.mul_le_mul_left _ (qyp (by omega)))
theorem yhv {a b:Tm}:a.big*(b.big*chN a.nm.length b.nm.length)=(par a b).big:=by
 unfold big
 rw [nm,cw,List.length_append,←qbh]
 simp only [Nat.mul_assoc,Nat.mul_left_comm,Nat.mul_comm]
theorem qog (e:Int) (p q:List ByteArray):(parE e p q).length≤chN p.length q.length:=by
 unfold parE mixS
 rw [List.length_map]
 exact Nat.le_trans (zah _) (Nat.le_of_eq (ziq _ _ _))
theorem yms (a b:Qc):(parF a b).length≤chN (a.1.1.length+a.2.1.length) (b.1.1.length+b.2.1.length):=by
 unfold parF
 refine Nat.le_trans (zib (k:=chN a.2.1.length b.2.1.length) fun p _=>by rw [List.length_map];exact qog _ _ _) ?_
 refine Nat.le_trans (Nat.mul_le_mul_right _ (qog _ _ _)) ?_
 exact qwl _ _ _ _
theorem ysb {a b:Tm} (ha:a.tr.length≤a.big) (hb:b.tr.length≤b.big):(qcr a.tr b.tr fun p q=>parE (bs p.2 q.2) p.1 q.1).length≤(par a b).big:=by
 refine Nat.le_trans (qax (k:=chN a.nm.length b.nm.length) fun p hp q hq=>Nat.le_trans (qog _ _ _) (qef (ygb hp) (ygb hq))) ?_
 rw [←yhv]
 exact Nat.mul_le_mul ha (Nat.mul_le_mul_right _ hb)
theorem ylv {a b:Tm} (ha:a.pq.length≤a.big) (hb:b.pq.length≤b.big):(qcr a.pq b.pq parF).length≤(par a b).big:=by
 refine Nat.le_trans (qax (k:=chN a.nm.length b.nm.length) fun p hp q hq=>Nat.le_trans (yms _ _) (qef (ypx hp) (ypx hq))) ?_
 rw [←yhv]
 exact Nat.mul_le_mul ha (Nat.mul_le_mul_right _ hb)
theorem ztc {α β γ:Type} {A:List α} {B:List β} {f:α→β→γ} {a b m:Tm} (hA:A.length≤a.big) (hB:B.length≤b.big) (hn:m.nm=a.nm++b.nm) (hc:a.cw*b.cw≤m.cw):(zsc A B f).length≤m.big :=
 Nat.le_trans qle (Nat.le_trans (Nat.mul_le_mul hA hB) (ytg hn hc))
theorem ylw {a b:Tm} (ha:a.tr.length≤a.big) (hb:b.tr.length≤b.big):(zsc a.tr b.tr goF).length+1≤(pair a b).big:=by
 have h1:(zsc a.tr b.tr goF).length≤a.cw*b.cw*fct (a.nm.length+b.nm.length):=Nat.le_trans qle (Nat.le_trans (Nat.mul_le_mul ha hb) (yht a b 0 (by omega)))
 have h2:=qbc (a.nm.length+b.nm.length)
 unfold big
 rw [cw,nm,List.length_append,Nat.add_mul,Nat.one_mul]
 omega
theorem yek {Q:List Qc}:(Q.flatMap blkF).length≤Q.length:=by
 have:=zib (f:=blkF) (k:=1) (A:=Q) fun x _=>by unfold blkF;split<;>first|simp|(split<;>simp)
 rwa [Nat.mul_one] at this
theorem zdt:∀m:Tm,m.tr.length≤m.big∧m.pq.length≤m.big
 |act s=>⟨by show _≤1;exact Nat.le_refl _,Nat.zero_le _⟩
 |skip=>⟨by show _≤1;exact Nat.le_refl _,Nat.zero_le _⟩
 |throw=>⟨by show _≤1;exact Nat.le_refl _,Nat.zero_le _⟩
 |over s=>⟨by show _≤1;exact Nat.le_refl _,Nat.zero_le _⟩
 |yield=>⟨zah _,Nat.zero_le _⟩
 |seq a b=>⟨Nat.le_trans (zah _) (ztc (zdt a).1 (zdt b).1 rfl (Nat.le_refl _)),Nat.le_trans (zah _) (ztc (zdt a).2 (zdt b).2 rfl (Nat.le_refl _))⟩
 |alt a b=>by
  refine ⟨Nat.le_trans (zah _) ?_,Nat.le_trans (zah _) ?_⟩
  ·rw [List.length_append];exact Nat.le_trans (Nat.add_le_add (zdt a).1 (zdt b).1) (yhw rfl rfl)
  ·rw [List.length_append];exact Nat.le_trans (Nat.add_le_add (zdt a).2 (zdt b).2) (yhw rfl rfl)
 |par a b=>⟨Nat.le_trans (zah _) (ysb (zdt a).1 (zdt b).1),Nat.le_trans (zah _) (ylv (zdt a).2 (zdt b).2)⟩
 |hand a b=>⟨Nat.le_trans (zah _) (ztc (zdt a).1 (zdt b).1 rfl (Nat.le_refl _)),Nat.zero_le _⟩
 |block a=>⟨Nat.le_trans (zah _) (Nat.le_trans yek (zdt a).2),Nat.zero_le _⟩
 |pair a b=>⟨Nat.zero_le _,Nat.le_trans (zah _) (by rw [List.length_append];exact ylw (zdt a).1 (zdt b).1)⟩
 |going a b=>⟨Nat.zero_le _,Nat.le_trans (zah _) (ztc (zdt a).1 (zdt b).1 rfl (Nat.le_refl _))⟩
 |stack a c=>⟨Nat.zero_le _,Nat.le_trans (zah _) (ztc (zdt a).2 (zdt c).1 rfl (Nat.le_refl _))⟩
 |fin s c=>⟨Nat.zero_le _,Nat.le_trans (zah _) (by rw [List.length_map];exact (zdt c).1)⟩
theorem zjv:∀m:Tm,m.nm.length=m.row.countP fun x=>decide (x.1∈([1]:List Int))
 |act s|skip|throw|yield|over s=>rfl
 |seq a b=>by rw [nm,List.length_append,zjv a,zjv b,quj,List.countP_cons_of_neg (by decide),List.countP_append]
 |alt a b=>by rw [nm,List.length_append,zjv a,zjv b,yrn,List.countP_cons_of_neg (by decide),List.countP_append]
 |par a b=>by rw [nm,List.length_append,zjv a,zjv b,qno,List.countP_cons_of_neg (by decide),List.countP_append]
 |hand a b=>by rw [nm,List.length_append,zjv a,zjv b,qnp,List.countP_cons_of_neg (by decide),List.countP_append]
 |pair a b=>by rw [nm,List.length_append,zjv a,zjv b,ykt,List.countP_cons_of_neg (by decide),List.countP_append]
 |going a b=>by rw [nm,List.length_append,zjv a,zjv b,qgd,List.countP_cons_of_neg (by decide),List.countP_append]
 |stack a b=>by rw [nm,List.length_append,zjv a,zjv b,qfz,List.countP_cons_of_neg (by decide),List.countP_append]
 |block a=>by rw [nm,zjv a,zta,List.countP_cons_of_neg (by decide)]
 |fin s a=>by rw [nm,zjv a,qnq,List.countP_cons_of_neg (by simp)]
def small (m:Tm):Prop:=m.size≤24∧m.nm.length≤6
end Tm
end Go.Rd
