/- Meanings: the traces of what is plain, the pairs of what is paired; how many there are. Plain Lean, no program in sight. -/
import Derived.Test.YtjolkdjkhekbnaaGreatDoorM7
set_option linter.unusedVariables false
set_option linter.unusedSimpArgs false
namespace Go.Rd
open Go Go.Sv
abbrev Qc:=Tc×Tc
def behT (p q:Tc):Tc:=(p.1++q.1,q.2)
def qcp (p q:Tc):Tc:=if p.2=2 then behT p q else p
def goF (x y:Tc):Qc:=(x,if x.2=1 then y else ([],1))
def seqF (a b:Qc):Qc:=if a.1.2=1 then (ziv a.1 b.1,ziv b.2 a.2) else a
def parF (a b:Qc):List Qc:=(parE (bs a.1.2 b.1.2) a.1.1 b.1.1).flatMap fun p=>(parE (bs a.2.2 b.2.2) a.2.1 b.2.1).map fun q=>(p,q)
def blkF (x:Qc):List Tc:=if x.1.2=1 then [x.1] else if x.1.2=2 then [behT x.1 x.2] else []
def zeh {α β γ:Type} (A:List α) (B:List β) (f:α→β→List γ):List γ:=A.flatMap fun a=>B.flatMap fun b=>f a b
def zhr {α β γ:Type} (A:List α) (B:List β) (f:α→β→γ):List γ:=zeh A B fun a b=>[f a b]
theorem zxk {α β γ:Type} {A:List α} {B:List β} {f:α→β→List γ} {z:γ}:z∈zeh A B f↔∃a∈A,∃b∈B,z∈f a b:=by unfold zeh;simp only [List.mem_flatMap]
theorem zgy {α β γ:Type} {A:List α} {B:List β} {f:α→β→γ} {z:γ}:z∈zhr A B f↔∃a∈A,∃b∈B,z=f a b:=by unfold zhr;simp only [zxk,List.mem_singleton]
theorem zmz {α γ:Type} {f:α→List γ} {k:Nat}:∀{A:List α},(∀a∈A,(f a).length≤k)→(A.flatMap f).length≤A.length*k
 |[],_=>by simp
 |a::A,h=>by
  have h1:=h a (List.mem_cons_self ..);have h2:=zmz (A:=A) fun b hb=>h b (List.mem_cons_of_mem _ hb)
  simp only [List.flatMap_cons,List.length_append,List.length_cons,Nat.add_mul,Nat.one_mul];omega
theorem qlp {α β γ:Type} {A:List α} {B:List β} {f:α→β→List γ} {k:Nat} (h:∀a∈A,∀b∈B,(f a b).length≤k):(zeh A B f).length≤A.length*(B.length*k):=
 zmz fun a ha=>zmz fun b hb=>h a ha b hb
theorem qxy {α β γ:Type} {A:List α} {B:List β} {f:α→β→γ}:(zhr A B f).length≤A.length*B.length:=by
 have:=qlp (A:=A) (B:=B) (f:=fun a b=>[f a b]) (k:=1) fun a _ b _=>by simp
 rwa [Nat.mul_one] at this
namespace Tm
def sem:Tm→List Tc×List Qc
 |act s=>(canon cmpT [([s],1)],[])
 |skip=>(canon cmpT [([],1)],[])
 |throw=>(canon cmpT [([],2)],[])
 |yield=>(canon cmpT [([],1),([],3)],[])
 |over s=>(canon cmpT [([],s)],[])
 |seq a b=>(canon cmpT (zhr a.sem.1 b.sem.1 ziv),canon cmpQ (zhr a.sem.2 b.sem.2 seqF))
 |alt a b=>(canon cmpT (a.sem.1++b.sem.1),canon cmpQ (a.sem.2++b.sem.2))
 |par a b=>(canon cmpT (zeh a.sem.1 b.sem.1 fun p q=>parE (bs p.2 q.2) p.1 q.1),canon cmpQ (zeh a.sem.2 b.sem.2 parF))
 |hand a b=>(canon cmpT (zhr a.sem.1 b.sem.1 qcp),[])
 |block a=>(canon cmpT (a.sem.2.flatMap blkF),[])
 |pair a b=>([],canon cmpQ (zhr a.sem.1 b.sem.1 goF++[(([],3),([],1))]))
 |going a b=>([],canon cmpQ (zhr a.sem.1 b.sem.1 goF))
 |stack a c=>([],canon cmpQ (zhr a.sem.2 c.sem.1 fun x q=>(x.1,ziv x.2 q)))
 |fin s c=>([],canon cmpQ (c.sem.1.map fun q=>(([],s),q)))
def tr (m:Tm):List Tc:=m.sem.1
def pq (m:Tm):List Qc:=m.sem.2
theorem qdv {s:ByteArray} {x:Tc}:x∈(act s).tr↔x=([s],1):=(zdm ordT).trans List.mem_singleton
theorem zpc {x:Tc}:x∈skip.tr↔x=([],1):=(zdm ordT).trans List.mem_singleton
theorem qnf {x:Tc}:x∈throw.tr↔x=([],2):=(zdm ordT).trans List.mem_singleton
theorem zqi {x:Tc}:x∈yield.tr↔x=([],1)∨x=([],3):=(zdm ordT).trans (by simp)
theorem zal {s:Int} {x:Tc}:x∈(over s).tr↔x=([],s):=(zdm ordT).trans List.mem_singleton
theorem zgw {a b:Tm} {x:Tc}:x∈(seq a b).tr↔∃p∈a.tr,∃q∈b.tr,x=ziv p q:=(zdm ordT).trans zgy
theorem zxh {a b:Tm} {x:Tc}:x∈(alt a b).tr↔x∈a.tr∨x∈b.tr:=(zdm ordT).trans List.mem_append
theorem zfz {a b:Tm} {x:Tc}:x∈(par a b).tr↔∃p∈a.tr,∃q∈b.tr,Mx p.1 q.1 x.1∧x.2=bs p.2 q.2:=by refine (zdm ordT).trans (zxk.trans ?_);simp only [qdw];rfl
theorem zhk {a b:Tm} {x:Tc}:x∈(hand a b).tr↔∃p∈a.tr,∃q∈b.tr,x=qcp p q:=(zdm ordT).trans zgy
theorem yno {z:Qc} {x:Tc}:x∈blkF z↔(z.1.2=1∧x=z.1)∨(z.1.2=2∧x=behT z.1 z.2):=by
 unfold blkF;split
 ·rename_i h;simp [h]
 ·rename_i h;split
  ·rename_i h2;simp [h2]
  ·rename_i h2;simp [h,h2]
theorem zet {a:Tm} {x:Tc}:x∈(block a).tr↔∃z∈a.pq,(z.1.2=1∧x=z.1)∨(z.1.2=2∧x=behT z.1 z.2):=by refine (zdm ordT).trans ?_;simp only [List.mem_flatMap,yno];rfl
theorem zjs {a b:Tm} {x:Qc}:x∈(seq a b).pq↔∃p∈a.pq,∃q∈b.pq,x=seqF p q:=(zdm ordQ).trans zgy
theorem zxi {a b:Tm} {x:Qc}:x∈(alt a b).pq↔x∈a.pq∨x∈b.pq:=(zdm ordQ).trans List.mem_append
theorem ynm {a b x:Qc}:x∈parF a b↔(Mx a.1.1 b.1.1 x.1.1∧x.1.2=bs a.1.2 b.1.2)∧Mx a.2.1 b.2.1 x.2.1∧x.2.2=bs a.2.2 b.2.2:=by
 unfold parF;simp only [List.mem_flatMap,List.mem_map];constructor
 ·rintro ⟨p,hp,q,hq,rfl⟩;exact ⟨qdw.1 hp,qdw.1 hq⟩
 ·rintro ⟨h1,h2⟩;exact ⟨x.1,qdw.2 h1,x.2,qdw.2 h2,rfl⟩
theorem zgx {a b:Tm} {x:Qc}:x∈(par a b).pq↔∃p∈a.pq,∃q∈b.pq,(Mx p.1.1 q.1.1 x.1.1∧x.1.2=bs p.1.2 q.1.2)∧Mx p.2.1 q.2.1 x.2.1∧x.2.2=bs p.2.2 q.2.2:=by refine (zdm ordQ).trans (zxk.trans ?_);simp only [ynm];rfl
theorem ztf {a b:Tm} {x:Qc}:x∈(pair a b).pq↔(∃p∈a.tr,∃q∈b.tr,x=goF p q)∨x=(([],3),([],1)):=by refine (zdm ordQ).trans (List.mem_append.trans ?_);rw [zgy,List.mem_singleton];rfl
theorem zfs {a b:Tm} {x:Qc}:x∈(going a b).pq↔∃p∈a.tr,∃q∈b.tr,x=goF p q:=(zdm ordQ).trans zgy
theorem zhc {a c:Tm} {x:Qc}:x∈(stack a c).pq↔∃p∈a.pq,∃q∈c.tr,x=(p.1,ziv p.2 q):=(zdm ordQ).trans zgy
theorem zbn {s:Int} {c:Tm} {x:Qc}:x∈(fin s c).pq↔∃q∈c.tr,x=(([],s),q):=by
 refine (zdm ordQ).trans (List.mem_map.trans ?_);constructor
 ·rintro ⟨q,h,rfl⟩;exact ⟨q,h,rfl⟩
 ·rintro ⟨q,h,rfl⟩;exact ⟨q,h,rfl⟩
theorem ysr:∀m:Tm,Srt cmpT m.tr∧Srt cmpQ m.pq
 |act s|skip|throw|yield|over s|hand a b|block a=>⟨zss ordT _,.nil⟩
 |seq a b|alt a b|par a b=>⟨zss ordT _,zss ordQ _⟩
 |pair a b|going a b|stack a b|fin s a=>⟨.nil,zss ordQ _⟩
theorem ymy (m:Tm):Srt cmpT m.tr:=(ysr m).1
theorem xdp (m:Tm):Srt cmpQ m.pq:=(ysr m).2
theorem qaw {a b:Tm} (h:∀x,x∈a.tr↔x∈b.tr):a.tr=b.tr:=qqi ordT (ymy a) (ymy b) h
theorem qfa {a b:Tm} (h:∀x,x∈a.pq↔x∈b.pq):a.pq=b.pq:=qqi ordQ (xdp a) (xdp b) h
theorem xbv {α:Type}:∀(p q:List α),∃r,Mx p q r
 |[],q=>⟨q,Mx.right q⟩
 |a::p,q=>by obtain ⟨r,h⟩:=xbv p q;exact ⟨a::r,.l h⟩
def s12 (s:Int):Prop:=s=1∨s=2
instance (s:Int):Decidable (s12 s):=by unfold s12;infer_instance
theorem ytn {a b:Int} (ha:s12 a) (hb:s12 b):s12 (bs a b):=by rcases ha with rfl|rfl<;>rcases hb with rfl|rfl<;>decide
theorem yal {p q:Tc} (hp:s12 p.2) (hq:s12 q.2):s12 (ziv p q).2:=by
 unfold ziv;split
 ·exact hq
 ·exact hp
theorem qcu:∀m:Tm,(m.pl=true→∃x∈m.tr,s12 x.2)∧(m.pa=true→∃x∈m.pq,s12 x.1.2∧s12 x.2.2)
 |act s=>⟨fun _=>⟨_,qdv.2 rfl,.inl rfl⟩,fun h=>by simp [pa] at h⟩
 |skip=>⟨fun _=>⟨_,zpc.2 rfl,.inl rfl⟩,fun h=>by simp [pa] at h⟩
 |throw=>⟨fun _=>⟨_,qnf.2 rfl,.inr rfl⟩,fun h=>by simp [pa] at h⟩
 |yield=>⟨fun _=>⟨_,zqi.2 (.inl rfl),.inl rfl⟩,fun h=>by simp [pa] at h⟩
 |over s=>⟨fun h=>by simp [pl] at h,fun h=>by simp [pa] at h⟩
 |seq a b=>by
  refine ⟨fun h=> ?_,fun h=> ?_⟩
  ·simp only [pl,Bool.and_eq_true] at h;obtain ⟨p,hp,hp2⟩:=(qcu a).1 h.1;obtain ⟨q,hq,hq2⟩:=(qcu b).1 h.2;exact ⟨_,zgw.2 ⟨p,hp,q,hq,rfl⟩,yal hp2 hq2⟩
  ·simp only [pa,Bool.and_eq_true] at h;obtain ⟨p,hp,hp2,hp3⟩:=(qcu a).2 h.1;obtain ⟨q,hq,hq2,hq3⟩:=(qcu b).2 h.2;refine ⟨_,zjs.2 ⟨p,hp,q,hq,rfl⟩,?_⟩;unfold seqF;split
   ·exact ⟨yal hp2 hq2,yal hq3 hp3⟩
   ·exact ⟨hp2,hp3⟩
 |alt a b=>by
  refine ⟨fun h=> ?_,fun h=> ?_⟩
  ·simp only [pl,Bool.and_eq_true] at h;obtain ⟨p,hp,hp2⟩:=(qcu a).1 h.1;exact ⟨_,zxh.2 (.inl hp),hp2⟩
  ·simp only [pa,Bool.and_eq_true] at h;obtain ⟨p,hp,hp2⟩:=(qcu a).2 h.1;exact ⟨_,zxi.2 (.inl hp),hp2⟩
 |par a b=>by
  refine ⟨fun h=> ?_,fun h=> ?_⟩
  ·simp only [pl,Bool.and_eq_true] at h;obtain ⟨p,hp,hp2⟩:=(qcu a).1 h.1;obtain ⟨q,hq,hq2⟩:=(qcu b).1 h.2;obtain ⟨r,hr⟩:=xbv p.1 q.1;exact ⟨(r,bs p.2 q.2),zfz.2 ⟨p,hp,q,hq,hr,rfl⟩,ytn hp2 hq2⟩
  ·simp only [pa,Bool.and_eq_true] at h;obtain ⟨p,hp,hp2,hp3⟩:=(qcu a).2 h.1;obtain ⟨q,hq,hq2,hq3⟩:=(qcu b).2 h.2;obtain ⟨r,hr⟩:=xbv p.1.1 q.1.1;obtain ⟨s,hs⟩:=xbv p.2.1 q.2.1;exact ⟨((r,bs p.1.2 q.1.2),(s,bs p.2.2 q.2.2)),zgx.2 ⟨p,hp,q,hq,⟨hr,rfl⟩,hs,rfl⟩,ytn hp2 hq2,ytn hp3 hq3⟩
 |hand a b=>by
  refine ⟨fun h=> ?_,fun h=>by simp [pa] at h⟩;simp only [pl,Bool.and_eq_true] at h;obtain ⟨p,hp,hp2⟩:=(qcu a).1 h.1;obtain ⟨q,hq,hq2⟩:=(qcu b).1 h.2;refine ⟨_,zhk.2 ⟨p,hp,q,hq,rfl⟩,?_⟩;unfold qcp;split
  ·exact hq2
  ·exact hp2
 |block a=>by
  refine ⟨fun h=> ?_,fun h=>by simp [pa] at h⟩;simp only [pl] at h;obtain ⟨z,hz,hz2,hz3⟩:=(qcu a).2 h;rcases hz2 with h1|h2
  ·exact ⟨_,zet.2 ⟨z,hz,.inl ⟨h1,rfl⟩⟩,.inl h1⟩
  ·exact ⟨_,zet.2 ⟨z,hz,.inr ⟨h2,rfl⟩⟩,hz3⟩
 |pair a b=>by
  refine ⟨fun h=>by simp [pl] at h,fun h=> ?_⟩;simp only [pa,Bool.and_eq_true] at h;obtain ⟨p,hp,hp2⟩:=(qcu a).1 h.1;obtain ⟨q,hq,hq2⟩:=(qcu b).1 h.2;refine ⟨_,ztf.2 (.inl ⟨p,hp,q,hq,rfl⟩),hp2,?_⟩;show s12 (if p.2=1 then q else ([],1)).2;split
  ·exact hq2
  ·exact .inl rfl
 |going a b|stack a b|fin s a=>⟨fun h=>by simp [pl] at h,fun h=>by simp [pa] at h⟩
theorem yzo {m:Tm} (h:m.pl=true):∃x,x∈m.tr:=by obtain ⟨x,hx,_⟩:=(qcu m).1 h;exact ⟨x,hx⟩
theorem xlh {m:Tm} (h:m.pa=true):∃x,x∈m.pq:=by obtain ⟨x,hx,_⟩:=(qcu m).2 h;exact ⟨x,hx⟩
def nm:Tm→List ByteArray
 |act s=>[s]
 |skip|throw|yield|over _=>[]
 |seq a b|alt a b|par a b|hand a b|pair a b|going a b|stack a b=>a.nm++b.nm
 |block a|fin _ a=>a.nm
def wsum (f:ByteArray→Nat) (l:List ByteArray):Nat:=(l.map f).sum
section
variable {f:ByteArray→Nat}
theorem qyx:wsum f []=0:=rfl
theorem zfb (l m:List ByteArray):wsum f (l++m)=wsum f l+wsum f m:=by simp [wsum]
theorem yiq {p q r:List ByteArray} (h:Mx p q r):wsum f r=wsum f p+wsum f q:=by
 induction h with
 |nil=>rfl
 |l _ ih=>simp only [wsum,List.map_cons,List.sum_cons] at ih ⊢;omega
 |r _ ih=>simp only [wsum,List.map_cons,List.sum_cons] at ih ⊢;omega
theorem qho (p q:Tc):wsum f (ziv p q).1≤wsum f p.1+wsum f q.1:=by
 unfold ziv;split
 ·rw [zfb];exact Nat.le_refl _
 ·omega
theorem zga:∀m:Tm,(∀x∈m.tr,wsum f x.1≤wsum f m.nm)∧(∀x∈m.pq,wsum f x.1.1+wsum f x.2.1≤wsum f m.nm)
 |act s=>⟨fun x hx=>by rw [qdv.1 hx];exact Nat.le_refl _,fun x hx=>by cases hx⟩
 |skip=>⟨fun x hx=>by rw [zpc.1 hx];exact Nat.le_refl _,fun x hx=>by cases hx⟩
 |throw=>⟨fun x hx=>by rw [qnf.1 hx];exact Nat.le_refl _,fun x hx=>by cases hx⟩
 |yield=>⟨fun x hx=>by rcases zqi.1 hx with h|h<;>rw [h]<;>exact Nat.le_refl _,fun x hx=>by cases hx⟩
 |over s=>⟨fun x hx=>by rw [zal.1 hx];exact Nat.le_refl _,fun x hx=>by cases hx⟩
 |seq a b=>⟨fun x hx=>by
  obtain ⟨p,hp,q,hq,rfl⟩:=zgw.1 hx;have h1:=(zga a).1 p hp;have h2:=(zga b).1 q hq;have h3:=qho (f:=f) p q;rw [nm,zfb];omega,fun x hx=>by
  obtain ⟨p,hp,q,hq,rfl⟩:=zjs.1 hx;have h1:=(zga a).2 p hp;have h2:=(zga b).2 q hq;have h3:=qho (f:=f) p.1 q.1;have h4:=qho (f:=f) q.2 p.2;rw [nm,zfb];unfold seqF;split
  ·show wsum f (ziv p.1 q.1).1+wsum f (ziv q.2 p.2).1≤_;omega
  ·omega⟩
 |alt a b=>⟨fun x hx=>by
  rw [nm,zfb];rcases zxh.1 hx with hx|hx
  ·have:=(zga a).1 x hx;omega
  ·have:=(zga b).1 x hx;omega,fun x hx=>by
  rw [nm,zfb];rcases zxi.1 hx with hx|hx
  ·have:=(zga a).2 x hx;omega
  ·have:=(zga b).2 x hx;omega⟩
 |par a b=>⟨fun x hx=>by
  obtain ⟨p,hp,q,hq,e,_⟩:=zfz.1 hx;have h1:=(zga a).1 p hp;have h2:=(zga b).1 q hq;rw [nm,zfb,yiq e];omega,fun x hx=>by
  obtain ⟨p,hp,q,hq,⟨e1,_⟩,e2,_⟩:=zgx.1 hx;have h1:=(zga a).2 p hp;have h2:=(zga b).2 q hq;rw [nm,zfb,yiq e1,yiq e2];omega⟩
 |hand a b=>⟨fun x hx=>by
  obtain ⟨p,hp,q,hq,rfl⟩:=zhk.1 hx;have h1:=(zga a).1 p hp;have h2:=(zga b).1 q hq;rw [nm,zfb];unfold qcp;split
  ·show wsum f (p.1++q.1)≤_;rw [zfb];omega
  ·omega,fun x hx=>by cases hx⟩
 |block a=>⟨fun x hx=>by
  obtain ⟨z,hz,⟨_,rfl⟩|⟨_,rfl⟩⟩:=zet.1 hx
  ·have:=(zga a).2 z hz;rw [nm];omega
  ·have:=(zga a).2 z hz;rw [nm];show wsum f (z.1.1++z.2.1)≤_;rw [zfb];omega,fun x hx=>by cases hx⟩
 |pair a b=>⟨fun x hx=>by (cases hx),fun x hx=>by
  rw [nm,zfb];rcases ztf.1 hx with ⟨p,hp,q,hq,rfl⟩|rfl
  ·have h1:=(zga a).1 p hp;have h2:=(zga b).1 q hq;show wsum f p.1+wsum f (if p.2=1 then q else ([],1)).1≤_;split
   ·omega
   ·rw [qyx];omega
  ·exact Nat.zero_le _⟩
 |going a b=>⟨fun x hx=>by (cases hx),fun x hx=>by
  rw [nm,zfb];obtain ⟨p,hp,q,hq,rfl⟩:=zfs.1 hx;have h1:=(zga a).1 p hp;have h2:=(zga b).1 q hq;show wsum f p.1+wsum f (if p.2=1 then q else ([],1)).1≤_;split
  ·omega
  ·rw [qyx];omega⟩
 |stack a c=>⟨fun x hx=>by (cases hx),fun x hx=>by obtain ⟨p,hp,q,hq,rfl⟩:=zhc.1 hx;have h1:=(zga a).2 p hp;have h2:=(zga c).1 q hq;have h3:=qho (f:=f) p.2 q;rw [nm,zfb];show wsum f p.1.1+wsum f (ziv p.2 q).1≤_;omega⟩
 |fin s c=>⟨fun x hx=>by (cases hx),fun x hx=>by obtain ⟨q,hq,rfl⟩:=zbn.1 hx;have h2:=(zga c).1 q hq;rw [nm];show wsum f []+wsum f q.1≤_;rw [qyx];omega⟩
end
theorem qhp (l:List ByteArray):wsum (fun _=>1) l=l.length:=by
 induction l with
 |nil=>rfl
 |cons a l ih=>simp only [wsum,List.map_cons,List.sum_cons,List.length_cons] at ih ⊢;omega
theorem yvv {m:Tm} {x:Tc} (h:x∈m.tr):x.1.length≤m.nm.length:=by
 have:=(zga (f:=fun _=>1) m).1 x h
 rwa [qhp,qhp] at this
theorem yvx {m:Tm} {x:Qc} (h:x∈m.pq):x.1.1.length+x.2.1.length≤m.nm.length:=by
 have:=(zga (f:=fun _=>1) m).2 x h
 rwa [qhp,qhp,qhp] at this
def fct:Nat→Nat
 |0=>1
 |n+1=>(n+1)*fct n
theorem qlu:∀n,1≤fct n
 |0=>Nat.le_refl _
 |n+1=>by have:=qlu n;rw [fct,Nat.succ_mul];omega
theorem yof:∀{m n:Nat},m≤n→fct m≤fct n
 |m,0,h=>by rw [Nat.le_zero.1 h];exact Nat.le_refl _
 |m,n+1,h=>by
  rcases Nat.lt_or_ge n m with h1|h1
  ·rw [show m=n+1 by omega];exact Nat.le_refl _
  ·have:=yof h1;rw [fct,Nat.succ_mul];omega
theorem qma:∀m n:Nat,chN m n*(fct m*fct n)=fct (m+n)
 |0,n=>by rw [chN,fct,Nat.zero_add];simp
 |m+1,0=>by rw [zzv,Nat.add_zero];simp [fct]
 |m+1,n+1=>by
  have h1:=qma m (n+1);have h2:=qma (m+1) n;rw [chN,Nat.add_mul];have e1:chN m (n+1)*(fct (m+1)*fct (n+1))=(m+1)*fct (m+n+1):=by rw [show m+n+1=m+(n+1) by omega,←h1,fct];simp only [Nat.mul_assoc,Nat.mul_left_comm]
  have e2:chN (m+1) n*(fct (m+1)*fct (n+1))=(n+1)*fct (m+n+1):=by rw [show m+n+1=m+1+n by omega,←h2,show fct (n+1)=(n+1)*fct n from rfl];simp only [Nat.mul_assoc,Nat.mul_left_comm]
  rw [e1,e2,←Nat.add_mul,show m+1+(n+1)=(m+n+1)+1 by omega];rfl
theorem xia (m n:Nat):fct m*fct n≤fct (m+n):=by
 rw [←qma m n];have:1≤chN m n:=by
  have h1:=qma m n;have h2:=qlu (m+n);rcases Nat.eq_zero_or_pos (chN m n) with h|h
  ·rw [h,Nat.zero_mul] at h1;omega
  ·exact h
 exact Nat.le_mul_of_pos_left _ this
theorem qpn:∀m n,chN m n=chN n m
 |0,n=>by rw [zzv,chN]
 |m+1,0=>by rw [zzv,chN]
 |m+1,n+1=>by rw [chN,chN,qpn m (n+1),qpn (m+1) n];omega
theorem xih:∀m n,chN m n≤chN m (n+1)
 |0,n=>by rw [chN,chN];exact Nat.le_refl _
 |m+1,0=>by rw [zzv,chN];have:=qma m 1;have h2:=zzv (m+1);omega
 |m+1,n+1=>by have h1:=xih m (n+1);have h2:=xih (m+1) n;rw [chN,show chN (m+1) (n+1+1)=chN m (n+1+1)+chN (m+1) (n+1) from by rw [chN]];omega
theorem qpm {m m' n n':Nat} (hm:m≤m') (hn:n≤n'):chN m n≤chN m' n':=by
 have r:∀{a b c:Nat},b≤c→chN a b≤chN a c:=fun {a b c} h=>by
  obtain ⟨d,rfl⟩:=Nat.exists_eq_add_of_le h
  induction d with
  |zero=>exact Nat.le_refl _
  |succ d ih=>exact Nat.le_trans (ih (by omega)) (xih a (b+d))
 refine Nat.le_trans (r hn) ?_;rw [qpn m,qpn m'];exact r hm
theorem yls:∀(m n m' n':Nat),chN m n*chN m' n'≤chN (m+m') (n+n')
 |0,n,m',n'=>by rw [chN,Nat.one_mul];exact qpm (by omega) (by omega)
 |m+1,0,m',n'=>by rw [zzv,Nat.one_mul];exact qpm (by omega) (by omega)
 |m+1,n+1,m',n'=>by have h1:=yls m (n+1) m' n';have h2:=yls (m+1) n m' n';rw [chN,Nat.add_mul,show m+1+m'=m+m'+1 by omega,show n+1+n'=n+n'+1 by omega,chN];rw [show n+1+n'=n+n'+1 by omega] at h1;rw [show m+1+m'=m+m'+1 by omega] at h2;omega
def cw:Tm→Nat
 |act _|skip|throw|over _=>1
 |yield=>2
 |seq a b|par a b|hand a b|going a b|stack a b=>a.cw*b.cw
 |alt a b=>a.cw+b.cw
 |pair a b=>a.cw*b.cw+1
 |block a|fin _ a=>a.cw
def leaves:Tm→Nat
 |act _|skip|throw|over _|yield=>1
 |seq a b|par a b|hand a b|going a b|stack a b|alt a b|pair a b=>a.leaves+b.leaves
 |block a|fin _ a=>a.leaves
theorem zct:∀m:Tm,2*m.leaves≤m.size+1
 |act _|skip|throw|over _|yield=>Nat.le_refl _
 |seq a b=>by have:=zct a;have:=zct b;rw [leaves,zbf];omega
 |par a b=>by have:=zct a;have:=zct b;rw [leaves,zbv];omega
 |hand a b=>by have:=zct a;have:=zct b;rw [leaves,zbk];omega
 |going a b=>by have:=zct a;have:=zct b;rw [leaves,zca];omega
 |stack a b=>by have:=zct a;have:=zct b;rw [leaves,zcx];omega
 |alt a b=>by have:=zct a;have:=zct b;rw [leaves,zuh];omega
 |pair a b=>by have:=zct a;have:=zct b;rw [leaves,zwx];omega
 |block a=>by have:=zct a;rw [leaves,zav];omega
 |fin _ a=>by have:=zct a;rw [leaves,zcn];omega
theorem qty:∀m:Tm,1≤m.cw
 |act _|skip|throw|over _=>Nat.le_refl _
 |yield=>by decide
 |seq a b|par a b|hand a b|going a b|stack a b=>by rw [cw];exact Nat.mul_pos (qty a) (qty b)
 |alt a b=>by have:=qty a;rw [cw];omega
 |pair a b=>by rw [cw];omega
 |block a|fin _ a=>by rw [cw];exact qty a
theorem ykn {x y a b:Nat} (hx:x+1≤a) (hy:y+1≤b):x*y+x+y+1≤a*b:=by
 have:=Nat.mul_le_mul hx hy;have e:(x+1)*(y+1)=x*y+x+y+1:=by rw [Nat.add_mul,Nat.mul_add];omega
 omega
theorem yhy:∀m:Tm,m.cw+1≤3 ^ m.leaves
 |act _|skip|throw|over _=>by show 1+1≤3 ^ 1;decide
 |yield=>by decide
 |seq a b|par a b|hand a b|going a b|stack a b=>by have h:=ykn (yhy a) (yhy b);rw [cw,leaves,Nat.pow_add];omega
 |alt a b=>by have h:=ykn (yhy a) (yhy b);have h1:=qty a;have h2:=qty b;rw [cw,leaves,Nat.pow_add];omega
 |pair a b=>by have h:=ykn (yhy a) (yhy b);have h1:=qty a;rw [cw,leaves,Nat.pow_add];omega
 |block a|fin _ a=>by rw [cw,leaves];exact yhy a
def big (m:Tm):Nat:=m.cw*fct m.nm.length
theorem yxo {m:Tm} (h1:m.size≤24) (h2:m.nm.length≤6):m.big≤400000000:=by
 have h3:=zct m;have h4:=yhy m;have h5:3 ^ m.leaves≤3 ^ 12:=Nat.pow_le_pow_right (by omega) (by omega);have h6:=yof h2;have:m.cw≤531440:=by
  have:3 ^ 12=531441:=by decide
  omega
 have h7:m.big≤531440*fct 6:=Nat.mul_le_mul this h6;have:fct 6=720:=rfl;omega
theorem yxn (a b:Tm) (x:Nat) (hx:x≤a.nm.length+b.nm.length):a.big*b.big≤a.cw*b.cw*fct (a.nm.length+b.nm.length):=by unfold big;rw [Nat.mul_mul_mul_comm];exact Nat.mul_le_mul_left _ (xia _ _)
theorem xin {a b m:Tm} (hn:m.nm=a.nm++b.nm) (hc:a.cw*b.cw≤m.cw):a.big*b.big≤m.big:=by refine Nat.le_trans (yxn a b 0 (by omega)) ?_;unfold big;rw [hn,List.length_append];exact Nat.mul_le_mul_right _ hc
theorem yxq {a b m:Tm} (hn:m.nm=a.nm++b.nm) (hc:m.cw=a.cw+b.cw):a.big+b.big≤m.big:=by unfold big;rw [hn,hc,List.length_append,Nat.add_mul];exact Nat.add_le_add (Nat.mul_le_mul_left _ (yof (by omega))) (Nat.mul_le_mul_left _ (yof (by omega)))
theorem yxp {a b:Tm}:a.big*(b.big*chN a.nm.length b.nm.length)=(par a b).big:=by unfold big;rw [nm,cw,List.length_append,←qma];simp only [Nat.mul_assoc,Nat.mul_left_comm,Nat.mul_comm]
theorem ycl (e:Int) (p q:List ByteArray):(parE e p q).length≤chN p.length q.length:=by unfold parE mixS;rw [List.length_map];exact Nat.le_trans (zao _) (Nat.le_of_eq (zky _ _ _))
theorem ynq (a b:Qc):(parF a b).length≤chN (a.1.1.length+a.2.1.length) (b.1.1.length+b.2.1.length):=by unfold parF;refine Nat.le_trans (zmz (k:=chN a.2.1.length b.2.1.length) fun p _=>by rw [List.length_map];exact ycl _ _ _) ?_;refine Nat.le_trans (Nat.mul_le_mul_right _ (ycl _ _ _)) ?_;exact yls _ _ _ _
theorem yui {a b:Tm} (ha:a.tr.length≤a.big) (hb:b.tr.length≤b.big):(zeh a.tr b.tr fun p q=>parE (bs p.2 q.2) p.1 q.1).length≤(par a b).big:=by refine Nat.le_trans (qlp (k:=chN a.nm.length b.nm.length) fun p hp q hq=>Nat.le_trans (ycl _ _ _) (qpm (yvv hp) (yvv hq))) ?_;rw [←yxp];exact Nat.mul_le_mul ha (Nat.mul_le_mul_right _ hb)
theorem yne {a b:Tm} (ha:a.pq.length≤a.big) (hb:b.pq.length≤b.big):(zeh a.pq b.pq parF).length≤(par a b).big:=by refine Nat.le_trans (qlp (k:=chN a.nm.length b.nm.length) fun p hp q hq=>Nat.le_trans (ynq _ _) (qpm (yvx hp) (yvx hq))) ?_;rw [←yxp];exact Nat.mul_le_mul ha (Nat.mul_le_mul_right _ hb)
theorem zmh {α β γ:Type} {A:List α} {B:List β} {f:α→β→γ} {a b m:Tm} (hA:A.length≤a.big) (hB:B.length≤b.big) (hn:m.nm=a.nm++b.nm) (hc:a.cw*b.cw≤m.cw):(zhr A B f).length≤m.big:=
 Nat.le_trans qxy (Nat.le_trans (Nat.mul_le_mul hA hB) (xin hn hc))
theorem ynf {a b:Tm} (ha:a.tr.length≤a.big) (hb:b.tr.length≤b.big):(zhr a.tr b.tr goF).length+1≤(pair a b).big:=by have h1:(zhr a.tr b.tr goF).length≤a.cw*b.cw*fct (a.nm.length+b.nm.length):=Nat.le_trans qxy (Nat.le_trans (Nat.mul_le_mul ha hb) (yxn a b 0 (by omega)));have h2:=qlu (a.nm.length+b.nm.length);unfold big;rw [cw,nm,List.length_append,Nat.add_mul,Nat.one_mul];omega
theorem yge {Q:List Qc}:(Q.flatMap blkF).length≤Q.length:=by
 have:=zmz (f:=blkF) (k:=1) (A:=Q) fun x _=>by unfold blkF;split<;>first|simp|(split<;>simp)
 rwa [Nat.mul_one] at this
theorem zbr:∀m:Tm,m.tr.length≤m.big∧m.pq.length≤m.big
 |act s=>⟨by show _≤1;exact Nat.le_refl _,Nat.zero_le _⟩
 |skip=>⟨by show _≤1;exact Nat.le_refl _,Nat.zero_le _⟩
 |throw=>⟨by show _≤1;exact Nat.le_refl _,Nat.zero_le _⟩
 |over s=>⟨by show _≤1;exact Nat.le_refl _,Nat.zero_le _⟩
 |yield=>⟨zao _,Nat.zero_le _⟩
 |seq a b=>⟨Nat.le_trans (zao _) (zmh (zbr a).1 (zbr b).1 rfl (Nat.le_refl _)),Nat.le_trans (zao _) (zmh (zbr a).2 (zbr b).2 rfl (Nat.le_refl _))⟩
 |alt a b=>by
  refine ⟨Nat.le_trans (zao _) ?_,Nat.le_trans (zao _) ?_⟩
  ·rw [List.length_append];exact Nat.le_trans (Nat.add_le_add (zbr a).1 (zbr b).1) (yxq rfl rfl)
  ·rw [List.length_append];exact Nat.le_trans (Nat.add_le_add (zbr a).2 (zbr b).2) (yxq rfl rfl)
 |par a b=>⟨Nat.le_trans (zao _) (yui (zbr a).1 (zbr b).1),Nat.le_trans (zao _) (yne (zbr a).2 (zbr b).2)⟩
 |hand a b=>⟨Nat.le_trans (zao _) (zmh (zbr a).1 (zbr b).1 rfl (Nat.le_refl _)),Nat.zero_le _⟩
 |block a=>⟨Nat.le_trans (zao _) (Nat.le_trans yge (zbr a).2),Nat.zero_le _⟩
 |pair a b=>⟨Nat.zero_le _,Nat.le_trans (zao _) (by rw [List.length_append];exact ynf (zbr a).1 (zbr b).1)⟩
 |going a b=>⟨Nat.zero_le _,Nat.le_trans (zao _) (zmh (zbr a).1 (zbr b).1 rfl (Nat.le_refl _))⟩
 |stack a c=>⟨Nat.zero_le _,Nat.le_trans (zao _) (zmh (zbr a).2 (zbr c).1 rfl (Nat.le_refl _))⟩
 |fin s c=>⟨Nat.zero_le _,Nat.le_trans (zao _) (by rw [List.length_map];exact (zbr c).1)⟩
theorem zoq:∀m:Tm,m.nm.length=m.row.countP fun x=>decide (x.1∈([1]:List Int))
 |act s|skip|throw|yield|over s=>rfl
 |seq a b=>by rw [nm,List.length_append,zoq a,zoq b,yji,List.countP_cons_of_neg (by decide),List.countP_append]
 |alt a b=>by rw [nm,List.length_append,zoq a,zoq b,xgs,List.countP_cons_of_neg (by decide),List.countP_append]
 |par a b=>by rw [nm,List.length_append,zoq a,zoq b,yap,List.countP_cons_of_neg (by decide),List.countP_append]
 |hand a b=>by rw [nm,List.length_append,zoq a,zoq b,yaq,List.countP_cons_of_neg (by decide),List.countP_append]
 |pair a b=>by rw [nm,List.length_append,zoq a,zoq b,xal,List.countP_cons_of_neg (by decide),List.countP_append]
 |going a b=>by rw [nm,List.length_append,zoq a,zoq b,qrm,List.countP_cons_of_neg (by decide),List.countP_append]
 |stack a b=>by rw [nm,List.length_append,zoq a,zoq b,qri,List.countP_cons_of_neg (by decide),List.countP_append]
 |block a=>by rw [nm,zoq a,zxa,List.countP_cons_of_neg (by decide)]
 |fin s a=>by rw [nm,zoq a,qrn,List.countP_cons_of_neg (by simp)]
def small (m:Tm):Prop:=m.size≤24∧m.nm.length≤6
end Tm
theorem qhw (q:Tc):ziv ([],1) q=q:=by simp [ziv]
namespace Tm
end Tm
namespace Tm
theorem ydv {a a' b b':Tm} (h:a.tr=a'.tr) (k:b.tr=b'.tr):(seq a b).tr=(seq a' b').tr:=qaw fun x=>by rw [zgw,zgw,h,k]
theorem qzl {a a' b b':Tm} (h:a.tr=a'.tr) (k:b.tr=b'.tr):(hand a b).tr=(hand a' b').tr:=qaw fun x=>by rw [zhk,zhk,h,k]
theorem ydw {a a' b b':Tm} (h:a.tr=a'.tr) (k:b.tr=b'.tr):(par a b).tr=(par a' b').tr:=qaw fun x=>by rw [zfz,zfz,h,k]
theorem qvc {a a':Tm} (h:a.pq=a'.pq):(block a).tr=(block a').tr:=qaw fun x=>by rw [zet,zet,h]
theorem ygh {a a' b b':Tm} (h:a.pq=a'.pq) (k:b.pq=b'.pq):(seq a b).pq=(seq a' b').pq:=qfa fun x=>by rw [zjs,zjs,h,k]
theorem ygi {a a' b b':Tm} (h:a.pq=a'.pq) (k:b.pq=b'.pq):(par a b).pq=(par a' b').pq:=qfa fun x=>by rw [zgx,zgx,h,k]
theorem qez {a a' c c':Tm} (h:a.pq=a'.pq) (k:c.tr=c'.tr):(stack a c).pq=(stack a' c').pq:=qfa fun x=>by rw [zhc,zhc,h,k]
theorem qvw {a a' b b':Tm} (h:a.tr=a'.tr) (k:b.tr=b'.tr):(going a b).pq=(going a' b').pq:=qfa fun x=>by rw [zfs,zfs,h,k]
theorem ygg (x c:Tm):(zlm x c).pq=(stack x c).pq:=by
 cases x with
 |fin s d=>
  refine qfa fun z=> ?_
  show z∈(fin s (seq d c)).pq↔_;rw [zbn,zhc];constructor
  ·rintro ⟨q,hq,rfl⟩;obtain ⟨u,hu,v,hv,rfl⟩:=zgw.1 hq;exact ⟨_,zbn.2 ⟨u,hu,rfl⟩,v,hv,rfl⟩
  ·rintro ⟨p,hp,q,hq,rfl⟩;obtain ⟨u,hu,rfl⟩:=zbn.1 hp;exact ⟨_,zgw.2 ⟨u,hu,q,hq,rfl⟩,rfl⟩
 |_=>rfl
theorem xfx (x y:Tm) (hx:x.po=true) (hy:y.po=true):(par' x y).tr=(par x y).tr:=by
 rcases zpb x y with ⟨s,z,rfl,rfl,e⟩|⟨s,c,z,d,rfl,rfl,e⟩|e
 ·rw [e];refine qaw fun w=> ?_
  rw [zal,zfz];constructor
  ·rintro rfl;exact ⟨_,zal.2 rfl,_,zal.2 rfl,.nil,rfl⟩
  ·rintro ⟨p,hp,q,hq,h1,h2⟩;rw [zal.1 hp,zal.1 hq] at h1 h2;exact Prod.ext h1.qvx h2
 ·simp [po] at hx
 ·rw [e]
theorem xhh (x y:Tm) (hx:x.qo=true) (hy:y.qo=true):(par' x y).pq=(par x y).pq:=by
 rcases zpb x y with ⟨s,z,rfl,rfl,e⟩|⟨s,c,z,d,rfl,rfl,e⟩|e
 ·simp [qo] at hx
 ·rw [e];refine qfa fun w=> ?_
  rw [zbn,zgx];constructor
  ·rintro ⟨q,hq,rfl⟩;obtain ⟨u,hu,v,hv,h1,h2⟩:=zfz.1 hq;exact ⟨_,zbn.2 ⟨u,hu,rfl⟩,_,zbn.2 ⟨v,hv,rfl⟩,⟨.nil,rfl⟩,h1,h2⟩
  ·rintro ⟨p,hp,q,hq,⟨h1,h2⟩,h3,h4⟩;obtain ⟨u,hu,rfl⟩:=zbn.1 hp;obtain ⟨v,hv,rfl⟩:=zbn.1 hq;exact ⟨w.2,zfz.2 ⟨u,hu,v,hv,h3,h4⟩,Prod.ext (Prod.ext h1.qvx h2) rfl⟩
 ·rw [e]
theorem yiv {s:Int} {b:Tm} (hs:s≠1) (hb:∃x,x∈b.tr):(seq (over s) b).tr=(over s).tr:=qaw fun x=>by
 rw [zgw,zal];constructor
 ·rintro ⟨p,hp,q,hq,rfl⟩;rw [zal.1 hp];unfold ziv;rw [if_neg hs]
 ·rintro rfl;obtain ⟨q,hq⟩:=hb;exact ⟨_,zal.2 rfl,q,hq,by unfold ziv;rw [if_neg hs]⟩
theorem ydx {s:Int} {b:Tm} (hs:s≠2) (hb:∃x,x∈b.tr):(hand (over s) b).tr=(over s).tr:=qaw fun x=>by
 rw [zhk,zal];constructor
 ·rintro ⟨p,hp,q,hq,rfl⟩;rw [zal.1 hp];unfold qcp;rw [if_neg hs]
 ·rintro rfl;obtain ⟨q,hq⟩:=hb;exact ⟨_,zal.2 rfl,q,hq,by unfold qcp;rw [if_neg hs]⟩
theorem yqb {s:Int} {c b:Tm} (hs:s≠1) (hb:∃x,x∈b.pq):(seq (fin s c) b).pq=(fin s c).pq:=qfa fun x=>by
 rw [zjs];constructor
 ·rintro ⟨p,hp,q,hq,rfl⟩;have hp':=hp;obtain ⟨u,hu,rfl⟩:=zbn.1 hp';unfold seqF;rw [if_neg hs];exact hp
 ·intro hx;obtain ⟨q,hq⟩:=hb;refine ⟨x,hx,q,hq,?_⟩;obtain ⟨u,hu,rfl⟩:=zbn.1 hx;unfold seqF;rw [if_neg hs]
theorem ykh {c b:Tm}:(seq (fin 1 c) b).pq=(stack b c).pq:=qfa fun x=>by
 rw [zjs,zhc];constructor
 ·rintro ⟨p,hp,q,hq,rfl⟩;obtain ⟨u,hu,rfl⟩:=zbn.1 hp;refine ⟨q,hq,u,hu,?_⟩;unfold seqF;rw [if_pos rfl,qhw]
 ·rintro ⟨p,hp,q,hq,rfl⟩;refine ⟨_,zbn.2 ⟨q,hq,rfl⟩,p,hp,?_⟩;unfold seqF;rw [if_pos rfl,qhw]
theorem qzj (b:Tm):(hand (over 2) b).tr=b.tr:=qaw fun x=>by
 rw [zhk];constructor
 ·rintro ⟨p,hp,q,hq,rfl⟩;rw [zal.1 hp];exact hq
 ·exact fun h=>⟨_,zal.2 rfl,x,h,rfl⟩
theorem ydy (b:Tm):(seq (over 1) b).tr=b.tr:=qaw fun x=>by
 rw [zgw];constructor
 ·rintro ⟨p,hp,q,hq,rfl⟩;rw [zal.1 hp,qhw];exact hq
 ·exact fun h=>⟨_,zal.2 rfl,x,h,(qhw x).symm⟩
theorem qzx:∀m:Tm,(m.po=true→m.st.tr=m.tr)∧(m.qo=true→m.st.pq=m.pq):=by
 intro m
 induction m using qde with
 |h m ih=>
  cases m with
  |act s=>rw [qba];exact ⟨fun _=>rfl,fun _=>rfl⟩
  |yield=>rw [zmn];exact ⟨fun _=>rfl,fun _=>rfl⟩
  |skip=>rw [zsr];exact ⟨fun _=>rfl,fun h=>by simp [qo] at h⟩
  |throw=>rw [zpj];exact ⟨fun _=>rfl,fun h=>by simp [qo] at h⟩
  |over s=>rw [zhx];exact ⟨fun _=>rfl,fun _=>rfl⟩
  |alt a b=>rw [qia];exact ⟨fun _=>rfl,fun _=>rfl⟩
  |pair a b=>rw [zya];exact ⟨fun _=>rfl,fun _=>rfl⟩
  |fin s a=>rw [zre];exact ⟨fun _=>rfl,fun _=>rfl⟩
  |hand a b=>
   refine ⟨fun h=> ?_,fun h=>by simp [qo] at h⟩;simp only [po,Bool.and_eq_true] at h;have ha:=(ih a (by rw [zbk];omega)).1 h.1;have hb:=(ih b (by rw [zbk];omega)).1 (zcg h.2);have hne:=yzo h.2;rw [zve,qzl (b:=b) ha.symm rfl];cases hx:a.st with
   |over s=>
    simp only [hand'];split
    ·rename_i h2;rw [hb,h2,qzj]
    ·rename_i h2;rw [ydx h2 hne]
   |_=>rfl
  |seq a b=>
   refine ⟨fun h=> ?_,fun h=> ?_⟩
   ·simp only [po,Bool.and_eq_true] at h;have ha:=(ih a (by rw [zbf];omega)).1 h.1;have hb:=(ih b (by rw [zbf];omega)).1 (zcg h.2);have hne:=yzo h.2;have hpo:=qnr h.1;rw [zzy,ydv (b:=b) ha.symm rfl];cases hx:a.st with
    |over s=>
     simp only [seq'];split
     ·rename_i h2;rw [hb,h2,ydy]
     ·rename_i h2;rw [yiv h2 hne]
    |fin s c=>rw [hx] at hpo;simp [po] at hpo
    |_=>rfl
   ·simp only [qo,Bool.and_eq_true] at h;have ha:=(ih a (by rw [zbf];omega)).2 h.1;have hb:=(ih b (by rw [zbf];omega)).2 (zja h.2);have hne:=xlh h.2;have hqo:=qzw h.1;rw [zzy,ygh (b:=b) ha.symm rfl];cases hx:a.st with
    |over s=>rw [hx] at hqo;simp [qo] at hqo
    |fin s c=>
     simp only [seq'];split
     ·rename_i h2;rw [ygg,h2,ykh];exact qez hb rfl
     ·rename_i h2;rw [yqb h2 hne]
    |_=>rfl
  |stack a c=>refine ⟨fun h=>by simp [po] at h,fun h=> ?_⟩;simp only [qo,Bool.and_eq_true] at h;have ha:=(ih a (by rw [zcx];omega)).2 h.1;rw [zmo,ygg];exact qez ha rfl
  |going a b=>
   refine ⟨fun h=>by simp [po] at h,fun h=> ?_⟩;simp only [qo,Bool.and_eq_true] at h;have ha:=(ih a (by rw [zca];omega)).1 h.1;have hne:=yzo h.2;rw [zns,qvw (b:=b) ha.symm rfl];cases hx:a.st with
   |over s=>
    simp only [qcq];split
    ·rename_i h2;subst h2;refine qfa fun x=> ?_
     rw [zbn,zfs];constructor
     ·rintro ⟨q,hq,rfl⟩;exact ⟨_,zal.2 rfl,q,hq,rfl⟩
     ·rintro ⟨p,hp,q,hq,rfl⟩;rw [zal.1 hp];exact ⟨q,hq,rfl⟩
    ·rename_i h2;refine qfa fun x=> ?_
     rw [zbn,zfs];constructor
     ·rintro ⟨q,hq,rfl⟩;obtain ⟨y,hy⟩:=hne;refine ⟨_,zal.2 rfl,y,hy,?_⟩;rw [zpc.1 hq];unfold goF;rw [if_neg h2]
     ·rintro ⟨p,hp,q,hq,rfl⟩;rw [zal.1 hp];refine ⟨_,zpc.2 rfl,?_⟩;unfold goF;rw [if_neg h2]
   |_=>rfl
  |par a b=>
   refine ⟨fun h=> ?_,fun h=> ?_⟩
   ·simp only [po,Bool.and_eq_true] at h;have ha:=(ih a (by rw [zbv];omega)).1 h.1;have hb:=(ih b (by rw [zbv];omega)).1 h.2;rw [zpx,xfx _ _ (qnr h.1) (qnr h.2)];exact ydw ha hb
   ·simp only [qo,Bool.and_eq_true] at h;have ha:=(ih a (by rw [zbv];omega)).2 h.1;have hb:=(ih b (by rw [zbv];omega)).2 h.2;rw [zpx,xhh _ _ (qzw h.1) (qzw h.2)];exact ygi ha hb
  |block a=>
   refine ⟨fun h=> ?_,fun h=>by simp [qo] at h⟩;simp only [po] at h;have ha:=(ih a (by rw [zav];omega)).2 h;have hqo:=qzw h;have hsz:=zcd a;rw [znt,qvc ha.symm];cases hx:a.st with
   |fin s c=>
    rw [hx] at hqo hsz;simp only [qo] at hqo;rw [zcn] at hsz;simp only [block'];split
    ·rename_i h1;subst h1;refine qaw fun x=> ?_
     rw [zal,zet];constructor
     ·rintro rfl;obtain ⟨q,hq⟩:=yzo hqo;exact ⟨_,zbn.2 ⟨q,hq,rfl⟩,.inl ⟨rfl,rfl⟩⟩
     ·rintro ⟨z,hz,h⟩;obtain ⟨q,hq,rfl⟩:=zbn.1 hz;rcases h with ⟨_,rfl⟩|⟨h,_⟩
      ·rfl
      ·exact absurd (show (1:Int)=2 from h) (by decide)
    ·split
     ·rename_i h1 h2;subst h2;rw [(ih c (by rw [zav];omega)).1 (zcg hqo)];refine qaw fun x=> ?_
      rw [zet];constructor
      ·exact fun hx=>⟨_,zbn.2 ⟨x,hx,rfl⟩,.inr ⟨rfl,rfl⟩⟩
      ·rintro ⟨z,hz,h⟩;obtain ⟨q,hq,rfl⟩:=zbn.1 hz;rcases h with ⟨h,_⟩|⟨_,rfl⟩
       ·exact absurd (show (2:Int)=1 from h) (by decide)
       ·exact hq
     ·rfl
   |_=>rfl
end Tm
abbrev Stk:=List (Nat×Nat)
def topO:Stk→Int
 |[]=> -1
 |x::_=>(x.1:Int)
def decS:Stk→Stk
 |[]=>[]
 |x::r=>(x.1,x.2-1)::r
def popZ:Stk→Stk
 |[]=>[]
 |x::r=>if x.2=0 then popZ r else x::r
def zwl (ar k:Nat) (S:Stk):Stk:=if 0<ar then (k,ar)::decS S else popZ (decS S)
def stkS (ars:Nat→Nat):Nat→Stk
 |0=>[]
 |k+1=>zwl (ars k) k (stkS ars k)
def runS (ars:Nat→Nat) (S:Stk) (i:Nat):Nat→Stk
 |0=>S
 |d+1=>runS ars (zwl (ars i) i S) (i+1) d
theorem qox (ars:Nat→Nat):∀(d e:Nat) (S:Stk) (i:Nat),runS ars S i (d+e)=runS ars (runS ars S i d) (i+d) e
 |0,e,S,i=>by simp [runS]
 |d+1,e,S,i=>by rw [show d+1+e=(d+e)+1 by omega,runS,runS,qox ars d e,show i+1+d=i+(d+1) by omega]
theorem yfc (ars:Nat→Nat):∀k,runS ars [] 0 k=stkS ars k
 |0=>rfl
 |k+1=>by rw [qox ars k 1,yfc ars k,Nat.zero_add];rfl
namespace T
def yrh (ars:Nat→Nat):T→Nat→Prop
 |n0 _,i=>ars i=0
 |n1 _ a,i=>ars i=1∧a.yrh ars (i+1)
 |n2 _ a b,i=>ars i=2∧a.yrh ars (i+1)∧b.yrh ars (i+1+a.size)
def par:T→Int→Nat→Nat→Int
 |n0 _,q,_,_=>q
 |n1 _ a,q,i,k=>if k=i then q else a.par i (i+1) k
 |n2 _ a b,q,i,k=>if k=i then q else if k<i+1+a.size then a.par i (i+1) k else b.par i (i+1+a.size) k
theorem zww:∀t:T,0<t.size
 |n0 _=>by simp [size]
 |n1 _ _=>by simp [size]
 |n2 _ _ _=>by simp [size]
theorem qow (ars:Nat→Nat):∀(t:T) (i:Nat) (S:Stk),t.yrh ars i→runS ars S i t.size=popZ (decS S)∧∀k,i≤k→k<i+t.size→topO (runS ars S i (k-i))=t.par (topO S) i k
 |n0 n,i,S,h=>by
  have h:ars i=0:=h;refine ⟨?_,fun k h1 h2=> ?_⟩
  ·show zwl (ars i) i S=_;simp [zwl,h]
  ·simp only [size] at h2;rw [show k-i=0 by omega];rfl
 |n1 n a,i,S,h=>by
  obtain ⟨h0,ha⟩:=h;obtain ⟨e1,e2⟩:=qow ars a (i+1) ((i,1)::decS S) ha;have es:zwl (ars i) i S=(i,1)::decS S:=by simp [zwl,h0]
  refine ⟨?_,fun k h1 h2=> ?_⟩
  ·rw [show (n1 n a).size=a.size+1 from rfl,runS,es,e1];rfl
  ·simp only [size] at h2;by_cases hk:k=i
   ·subst hk;rw [Nat.sub_self];show topO S=_;unfold par;rw [if_pos rfl]
   ·rw [show k-i=(k-(i+1))+1 by omega,runS,es,e2 k (by omega) (by omega)];show _=par (n1 n a) (topO S) i k;rw [par,if_neg hk];rfl
 |n2 n a b,i,S,h=>by
  obtain ⟨h0,ha,hb⟩:=h;obtain ⟨e1,e2⟩:=qow ars a (i+1) ((i,2)::decS S) ha;obtain ⟨e3,e4⟩:=qow ars b (i+1+a.size) ((i,1)::decS S) hb;have es:zwl (ars i) i S=(i,2)::decS S:=by simp [zwl,h0]
  have e1':runS ars ((i,2)::decS S) (i+1) a.size=(i,1)::decS S:=by rw [e1];rfl
  refine ⟨?_,fun k h1 h2=> ?_⟩
  ·rw [show (n2 n a b).size=(a.size+b.size)+1 from rfl,runS,es,qox,e1',e3];rfl
  ·simp only [size] at h2;by_cases hk:k=i
   ·subst hk;rw [Nat.sub_self];show topO S=_;unfold par;rw [if_pos rfl]
   ·rw [show k-i=(k-(i+1))+1 by omega,runS,es];show _=par (n2 n a b) (topO S) i k;rw [par,if_neg hk];by_cases hk2:k<i+1+a.size
    ·rw [if_pos hk2,e2 k (by omega) hk2];rfl
    ·rw [if_neg hk2,show k-(i+1)=a.size+(k-(i+1+a.size)) by omega,qox,e1',e4 k (by omega) (by omega)];rfl
theorem qpa:∀(t:T) (q:Int) (i k:Nat),i≤k→k<i+t.size→(k=i∧t.par q i k=q)∨∃p:Nat,t.par q i k=(p:Int)∧i≤p∧p<k∧(t.path i k).map (·.1)=(t.path i p).map (·.1)++[p]
 |n0 n,q,i,k,h1,h2=>by simp only [size] at h2;exact .inl ⟨by omega,rfl⟩
 |n1 n a,q,i,k,h1,h2=>by
  simp only [size] at h2;by_cases hk:k=i
  ·exact .inl ⟨hk,by rw [par,if_pos hk]⟩
  ·right;rw [par,if_neg hk,zqt,if_neg hk];rcases qpa a (i:Int) (i+1) k (by omega) (by omega) with ⟨e1,e2⟩|⟨p,e1,e2,e3,e4⟩
   ·refine ⟨i,e2,Nat.le_refl _,by omega,?_⟩;subst e1;have:a.path (i+1) (i+1)=[]:=by cases a<;>simp [path]
    rw [this,zqt,if_pos rfl];rfl
   ·refine ⟨p,e1,by omega,e3,?_⟩;rw [zqt,if_neg (by omega),List.map_cons,List.map_cons,e4];rfl
 |n2 n a b,q,i,k,h1,h2=>by
  simp only [size] at h2;by_cases hk:k=i
  ·exact .inl ⟨hk,by rw [par,if_pos hk]⟩
  ·right;rw [par,if_neg hk,zif,if_neg hk];by_cases hk2:k<i+1+a.size
   ·rw [if_pos hk2,if_pos hk2];rcases qpa a (i:Int) (i+1) k (by omega) hk2 with ⟨e1,e2⟩|⟨p,e1,e2,e3,e4⟩
    ·refine ⟨i,e2,Nat.le_refl _,by omega,?_⟩;subst e1;have:a.path (i+1) (i+1)=[]:=by cases a<;>simp [path]
     rw [this,zif,if_pos rfl];rfl
    ·refine ⟨p,e1,by omega,e3,?_⟩;rw [zif,if_neg (by omega),if_pos (by omega),List.map_cons,List.map_cons,e4];rfl
   ·rw [if_neg hk2,if_neg hk2];rcases qpa b (i:Int) (i+1+a.size) k (by omega) (by omega) with ⟨e1,e2⟩|⟨p,e1,e2,e3,e4⟩
    ·refine ⟨i,e2,Nat.le_refl _,by omega,?_⟩;subst e1;have:b.path (i+1+a.size) (i+1+a.size)=[]:=by cases b<;>simp [path]
     rw [this,zif,if_pos rfl];rfl
    ·refine ⟨p,e1,by omega,e3,?_⟩;rw [zif,if_neg (by omega),if_neg (by omega),List.map_cons,List.map_cons,e4];rfl
theorem xhm (t:T):∀i,i<t.size→(t.par (-1) 0 i= -1∧t.ovr i=[])∨(0≤t.par (-1) 0 i∧t.par (-1) 0 i<i∧t.ovr i=t.ovr (t.par (-1) 0 i).toNat++[(t.par (-1) 0 i).toNat]):=fun i hi=>by
 rcases qpa t (-1) 0 i (Nat.zero_le _) (by omega) with ⟨e1,e2⟩|⟨p,e1,e2,e3,e4⟩
 ·left;refine ⟨e2,?_⟩;subst e1;unfold ovr;cases t<;>simp [path]
 ·right;rw [e1];refine ⟨by omega,by omega,?_⟩;rw [Int.toNat_natCast];exact e4
theorem xgc (ars:Nat→Nat) (t:T) (h:t.yrh ars 0) (k:Nat) (hk:k<t.size):topO (stkS ars k)=t.par (-1) 0 k:=by have:=(qow ars t 0 [] h).2 k (Nat.zero_le _) (by omega);rw [Nat.sub_zero,yfc] at this;exact this
end T
theorem yed (ars:Nat→Nat):∀k,(∀j,j<k→ars j≤2)→(∀x∈stkS ars k,x.1<k∧x.2≤2)∧(stkS ars k).length≤k∧∀x r,stkS ars k=x::r→0<x.2
 |0,_=>⟨fun x hx=>(by cases hx),Nat.le_refl _,fun x r h=>by cases h⟩
 |k+1,h=>by
  obtain ⟨h1,h2,h3⟩:=yed ars k fun j hj=>h j (by omega)
  have d1:∀x∈decS (stkS ars k),x.1<k+1∧x.2≤2:=fun x hx=>by
   revert hx h1;cases stkS ars k with
   |nil=>intro _ hx;cases hx
   |cons y r=>
    intro h1 hx;rcases List.mem_cons.1 hx with rfl|hx
    ·have:=h1 y (List.mem_cons_self ..);exact ⟨by show y.1<_;omega,by show y.2-1≤_;omega⟩
    ·have:=h1 x (List.mem_cons_of_mem _ hx);exact ⟨by omega,this.2⟩
  have d2:(decS (stkS ars k)).length≤k:=by revert h2;cases stkS ars k<;>exact id
  have p1:∀(S:Stk),(∀x∈popZ S,x∈S)∧(popZ S).length≤S.length∧∀x r,popZ S=x::r→0<x.2:=by
   intro S
   induction S with
   |nil=>exact ⟨fun x hx=>hx,Nat.le_refl _,fun x r h=>by cases h⟩
   |cons y r ih=>
    obtain ⟨i1,i2,i3⟩:=ih;unfold popZ;split
    ·exact ⟨fun x hx=>List.mem_cons_of_mem _ (i1 x hx),by simp;omega,i3⟩
    ·exact ⟨fun x hx=>hx,Nat.le_refl _,fun x r' h=>by cases h;omega⟩
  show (∀x∈zwl (ars k) k (stkS ars k),_)∧_∧_;have hk:=h k (by omega);show (∀x∈zwl (ars k) k (stkS ars k),x.1<k+1∧x.2≤2)∧(zwl (ars k) k (stkS ars k)).length≤k+1∧∀x r,zwl (ars k) k (stkS ars k)=x::r→0<x.2;unfold zwl;split
  ·rename_i ha;refine ⟨fun x hx=> ?_,by simp;omega,fun x r h=>by cases h;exact ha⟩;rcases List.mem_cons.1 hx with rfl|hx
   ·exact ⟨by show k<k+1;omega,hk⟩
   ·exact d1 x hx
  ·obtain ⟨q1,q2,q3⟩:=p1 (decS (stkS ars k));exact ⟨fun x hx=>d1 x (q1 x hx),by omega,q3⟩
noncomputable def zxg (l:List Nd) (k:Int):Option (List Int):=match tree l with
 |some t=>if l.length≤1000000∧0≤k∧k<l.length then some ((t.ovr k.toNat).map fun (i:Nat)=>(i:Int)) else none
 |none=>none
theorem T.zsa:∀(t:T) (i k:Nat),(t.path i k).length≤t.size
 | .n0 n,i,k=>Nat.zero_le _
 | .n1 n a,i,k=>by
   rw [T.zqt];have:=T.zsa a (i+1) k;split
   ·simp
   ·simp only [List.length_cons,T.size];omega
 | .n2 n a b,i,k=>by
   rw [T.zif];have h1:=T.zsa a (i+1) k;have h2:=T.zsa b (i+1+a.size) k;split
   ·simp
   ·split
    ·simp only [List.length_cons,T.size];omega
    ·simp only [List.length_cons,T.size];omega
theorem qzo {α:Type} {l:List α} {i:Nat} {x:α} {r:List α} (h:l.drop i=x::r):(l.take (i+1)).drop i=[x]:=by rw [List.drop_take,h,show i+1-i=1 by omega];rfl
def T.bang:T→Bool
 |n0 n=>if n.1=11 then decide (n.2.2=2) else false
 |n1 n a=>if n.1=14 then decide (n.2.2=2) else false
 |n2 n a b=>if n.1=5∨n.1=12∨n.1=13 then a.bang else if n.1=7 then a.bang||b.bang else false
namespace Tm
end Tm
end Go.Rd
namespace Go.Proofs.YtjolkdjkhekbnaaGreatDoor.Sv
open Go Go.Sv Go.Rd
class zda [Dfr]:Prop where
 eq:∀l k,Dfr.d_plot_Over l k=zxg l k
theorem qsb [Dfr] [zda] {l:List Nd} {t:T} (ht:tree l=some t) (hl:l.length≤1000000) {k:Nat} (hk:k<l.length):qiw l (k:Int)=some ((t.ovr k).map fun (i:Nat)=>(i:Int)):=by rw [ygl];show Dfr.d_plot_Over l _=_;rw [zda.eq];unfold zxg;rw [ht];simp only;rw [if_pos ⟨hl,by omega,by omega⟩,Int.toNat_natCast]
theorem ylm [Dfr] (n:Nd):qtu n=some (goK n.1:Int):=by
 rw [yhu];by_cases h1:n.1=5; · rw [h1];rfl
 by_cases h2:n.1=8; · rw [h2];rfl
 by_cases h3:n.1=12; · rw [h3];rfl
 by_cases h4:n.1=13; · rw [h4];rfl
 by_cases h5:n.1=9; · rw [h5];rfl
 by_cases h6:n.1=7; · rw [h6];rfl
 have e:goK n.1=0:=by unfold goK;rw [if_neg (by omega),if_neg h6]
 rw [e];have f:∀c:Int,¬n.1=c→(n.1==c)=false:=fun c h=>by rw [beq_eq_false_iff_ne];exact h
 simp only [f 5 h1,f 8 h2,f 12 h3,f 13 h4,f 9 h5,f 7 h6,cond_false];rfl
theorem qyk [Dfr] (l:List Nd) (hl:l.length≤1000000) (k:Nat) (x:Nat×Nat×T) (hx:yim l k x):qpi l (x.1:Int) (k:Int)=some (x.2.1:Int):=by
 obtain ⟨hok,⟨r,hr⟩,hlt,hm⟩:=hx;obtain ⟨i,j,s⟩:=x;simp only at hok hr hlt hm ⊢;have hil:i≤l.length:=by
  rcases Nat.lt_or_ge l.length i with h|h
  ·rw [List.drop_eq_nil_of_le (by omega)] at hr;have:=congrArg List.length hr;have:=T.zww s;simp [T.zab] at*;omega
  ·exact h
 have hlen:=congrArg List.length hr;rw [List.length_drop,List.length_append,T.zab] at hlen;have hkl:k<i+s.size:=by
  cases s with
  |n0 n=>exact hm.elim
  |n1 n a=>simp only at hm;simp only [T.size];omega
  |n2 n a b=>simp only at hm;simp only [T.size];omega
 rw [yll,zld hil (Nat.le_refl _),yda,hr,zjq _ (by rw [List.length_append,T.zab];omega)];have hkr:zfl (s.row++r)=s.kids.map T.row:=by unfold zfl;rw [qem hok]
 have ew:w64 ((k:Int)-w64 ((i:Int)+1))=(k:Int)-((i:Int)+1):=by rw [zgz (n:=(i:Int)+1) (by omega) (by omega),zgz (by omega) (by omega)]
 rw [hkr,ew];simp only [cond_true,Option.bind_some];cases s with
 |n0 n=>exact hm.elim
 |n1 n a=>simp only at hm;obtain ⟨rfl,h2⟩:=hm;have hs:(([a].map T.row).length:Int)=1:=rfl;simp only [T.size] at hlen hkl;rw [show (T.n1 n a).kids=[a] from rfl,hs,zvz];have e1:ix ([a].map T.row) 0=a.row:=rfl;simp only [e1,T.zab];rw [zgz (by omega) (by omega),show zaa 0 ([a].map T.row).length=true from rfl,decide_eq_true (show (0:Int)<1 by omega),decide_eq_true (show (k:Int)-((i:Int)+1)-(a.size:Int)<0 by omega)];rfl
 |n2 n a b=>
  simp only at hm;have hs:(([a,b].map T.row).length:Int)=2:=rfl;rw [show (T.n2 n a b).kids=[a,b] from rfl,hs,zvz];have e1:ix ([a,b].map T.row) 0=a.row:=rfl;have e2:ix ([a,b].map T.row) 1=b.row:=rfl;simp only [T.size] at hlen hkl;rcases hm with ⟨rfl,h2⟩|⟨rfl,h2,h3⟩
  ·simp only [e1,T.zab];rw [zgz (by omega) (by omega),show zaa 0 ([a,b].map T.row).length=true from rfl,decide_eq_true (show (0:Int)<2 by omega),decide_eq_true (show (k:Int)-((i:Int)+1)-(a.size:Int)<0 by omega)];rfl
  ·simp only [e1,T.zab];rw [zgz (n:=(k:Int)-((i:Int)+1)-(a.size:Int)) (by omega) (by omega),show zaa 0 ([a,b].map T.row).length=true from rfl,decide_eq_true (show (0:Int)<2 by omega),decide_eq_false (show ¬(k:Int)-((i:Int)+1)-(a.size:Int)<0 by omega)];simp only [cond_true,cond_false];rw [show w64 (0+1)=1 from rfl,zvz];simp only [e2,T.zab];rw [zgz (by omega) (by omega),show zaa 1 ([a,b].map T.row).length=true from rfl,decide_eq_true (show (1:Int)<2 by omega),decide_eq_true (show (k:Int)-((i:Int)+1)-(a.size:Int)-(b.size:Int)<0 by omega)];rfl
theorem ygn [Dfr] (l:List Nd) (k:Nat) (x:Nat×Nat×T) (hx:yim l k x):l.getD x.1 default=x.2.2.hd∧x.1<l.length:=by
 obtain ⟨hok,⟨r,hr⟩,hlt,hm⟩:=hx;have:l[x.1]? =some x.2.2.hd:=by rw [←List.head?_drop,hr];cases x.2.2<;>rfl
 exact ⟨by rw [List.getD_eq_getElem?_getD,this];rfl,(List.getElem?_eq_some_iff.1 this).1⟩
theorem qlz [Dfr] (l:List Nd) (hl:l.length≤1000000) (k:Nat) (x:Nat×Nat×T) (hx:yim l k x):zlc (x.1:Int) l (k:Int)=some (decide (goK x.2.2.hd.1≤x.2.1)):=by
 obtain ⟨h1,h2⟩:=ygn l k x hx;have h3:ix l (x.1:Int)=x.2.2.hd:=by rw [qfg h2,←h1,List.getD_eq_getElem?_getD,List.getElem?_eq_getElem h2];rfl
 rw [qkb,qyk l hl k x hx,Option.bind_some,ztl h2,h3,ylm];simp
theorem qtw [Dfr] [zda] (l:List Nd) (t:T) (ht:tree l=some t) (hl:l.length≤1000000) (k:Nat) (hk:k<l.length):zzt (k:Int) l=some (qei (t.path 0 k)):=by
 obtain ⟨hok,hrow⟩:=zht.1 ht;have hlen:l.length=t.size:=by rw [hrow,T.zab]
 have hp:=qsg l k t 0 [] hok (by rw [List.drop_zero,List.append_nil];exact hrow) (Nat.zero_le _) (by omega);rw [qom,qsb ht hl hk,Option.bind_some];have hov:((t.ovr k).map fun (i:Nat)=>(i:Int))=(t.path 0 k).map fun x=>(x.1:Int):=by unfold T.ovr;rw [List.map_map];rfl
 have hval:∀x∈t.path 0 k,zlc (x.1:Int) l (k:Int)=some (decide (goK x.2.2.hd.1≤x.2.1)):=fun x hx=>qlz l hl k x (hp x hx)
 have hpl:(t.path 0 k).length≤4611686018427387904:=by have:=T.zsa t 0 k;omega
 rw [hov,ztu _ _ (fun j=>(zlc j l (k:Int)).getD false) (by rw [List.length_map];exact hpl) (fun j hj=>by obtain ⟨x,hx,rfl⟩:=List.mem_map.1 hj;refine (qhf _ l (k:Int)).trans ?_;rw [hval x hx];rfl),Option.bind_some]
 congr 1
 unfold qei;rw [List.any_map,Bool.eq_iff_iff,List.any_eq_true,List.any_eq_true];constructor
 ·rintro ⟨x,hx,h⟩;refine ⟨x,hx,?_⟩;simp only [Function.comp,hval x hx,Option.getD_some] at h;exact h
 ·rintro ⟨x,hx,h⟩;refine ⟨x,hx,?_⟩;simp only [Function.comp,hval x hx,Option.getD_some];exact h
theorem count_one [Dfr] (x:Nd):([x].countP fun y=>decide (y.1∈([1,6,4,10]:List Int)))=if zcw x.1=true then 1 else 0:=by rw [List.countP_singleton];unfold zcw;simp
theorem qcv [Dfr] (l:List Nd) (hl:l.length≤1000000) (f:FnV) (idle:Nat→Bool) (hd:∀k,k<l.length→dyn E f [.one (.int .i64 (k:Int))] .bool=some (idle k)):∀(r:List Nd) (i:Nat) (acc:List Int),l.drop i=r→acc.length≤i→
 zju l f acc (l.length:Int) (i:Int)=some (0,acc++((List.range' i r.length).filter fun k=>zcw (l.getD k default).1&& !idle k).map fun (k:Nat)=>(k:Int))
 |[],i,acc,h,ha=>by obtain ⟨h1,h2⟩:=drop_nil h;rw [zxr];simp only [h2,cond_false];simp
 |x::r,i,acc,h,ha=>by
  obtain ⟨hi,hd0,hix,hx,hr,hle⟩:=zae h;have hw:w64 ((i:Int)+1)=((i+1:Nat):Int):=by rw [zgz (by omega) (by omega)];omega
  have hcut:cut l (i:Int) ((i+1:Nat):Int)=[x]:=by rw [zrb,qzo h]
  have hg:l.getD i default=x:=by
   have:l[i]? =some x:=by rw [←List.head?_drop,h];rfl
   rw [List.getD_eq_getElem?_getD,this];rfl
  have hc:=qgf [x] [1,6,4,10] (by simp) (by simp);rw [count_one] at hc;have ih:=fun acc ha=>qcv l hl f idle hd r (i+1) acc hr ha
  rw [zxr];simp only [hd0,cond_true,hw,zld (show i≤i+1 by omega) (show i+1≤l.length by omega),hcut,hc,Option.bind_some];rw [List.length_cons,List.range'_succ,List.filter_cons,hg];by_cases hwk:zcw x.1=true
  ·rw [if_pos hwk,hwk,hd i hi];cases hid:idle i with
   |true=>simp only [Option.bind_some,Bool.not_true,cond_false,Bool.and_false,Bool.false_eq_true,if_false];exact ih acc (by omega)
   |false=>simp only [Option.bind_some,Bool.not_false,cond_true,Bool.and_true,if_true,qrr (show (acc.length+1)*8≤140737488355328 by omega)];rw [ih (acc++[(i:Int)]) (by simp;omega)];simp
  ·rw [if_neg hwk];have:zcw x.1=false:=by cases h:zcw x.1;rfl;exact absurd h hwk
   rw [this];simp only [Bool.false_and,Bool.false_eq_true,if_false];exact ih acc (by omega)
theorem qka [Dfr] [zda] {l:List Nd} {t:T} (ht:tree l=some t) (hl:l.length≤1000000) (hs:l≠[]∧zbp l=l):ztp l=some ((t.wts 0).map fun (k:Nat)=>(k:Int)):=by
 obtain ⟨hok,hrow⟩:=zht.1 ht;have hlen:l.length=t.size:=by rw [hrow,T.zab]
 have e:=qcv l hl ⟨zra,[⟨true,(.slice 68 (.pair (.int .i64) (.pair .str (.int .i64)))),l⟩]⟩ (fun k=>qei (t.path 0 k)) (fun k hk=>by refine (qly (k:Int) l).trans ?_;exact qtw l t ht hl k hk) l 0 [] rfl (Nat.le_refl _);rw [Int.natCast_zero] at e;rw [qfk,zmp l (by omega),decide_eq_true hs];simp only [Option.bind_some,Bool.not_true,cond_false,e];rw [znd l t 0 [] (by rw [List.drop_zero,List.append_nil];exact hrow),hlen,List.nil_append]
theorem qws [Dfr] [zda] {l:List Nd} (hl:l.length≤1000000) (hs:¬(l≠[]∧zbp l=l)):ztp l=some []:=by rw [qfk,zmp l (by omega),decide_eq_false hs];rfl
theorem ztn [Dfr] (l:List Nd) (hl:l.length≤1000000) (k:Nat) (xs:List Int) (hxl:xs.length≤1000000):∀(q:List (Nat×Nat×T)) (i:Nat) (out:List (List Nd)),(∀x∈q,yim l k x)→xs.drop i=q.map (fun x=>(x.1:Int))→out.length≤i→
 zml l (k:Int) out false xs (xs.length:Int) (i:Int)=some (if (revB q out).2=true then (1,((revB q out).1,true)) else (0,((revB q out).1,false)))
 |[],i,out,hq,h,ho=>by obtain ⟨h1,h2⟩:=drop_nil h;rw [zxp];simp only [h2,cond_false,revB];rfl
 |x::q,i,out,hq,h,ho=>by
  have hx:=hq x (List.mem_cons_self ..);have hq':=fun y hy=>hq y (List.mem_cons_of_mem _ hy)
  obtain ⟨hi,hd0,hix,hxx,hr,hle⟩:=zae h;have hw:w64 ((i:Int)+1)=((i+1:Nat):Int):=by rw [zgz (by omega) (by omega)];omega
  obtain ⟨g1,g2⟩:=ygn l k x hx;have g3:ix l (x.1:Int)=x.2.2.hd:=by rw [qfg g2,←g1,List.getD_eq_getElem?_getD,List.getElem?_eq_getElem g2];rfl
  rw [zxp];simp only [hd0,cond_true,hix,hxx,ztl g2,g3,hw];by_cases h9:x.2.2.hd.1=9
  ·rw [show (x.2.2.hd.1==9)=true by rw [h9];rfl];simp only [cond_true,revB,if_pos h9];rfl
  ·rw [show (x.2.2.hd.1==9)=false by rw [beq_eq_false_iff_ne];exact h9];simp only [cond_false];by_cases h7:x.2.2.hd.1=7
   ·rw [show (x.2.2.hd.1==7)=true by rw [h7];rfl];have hk:=qyk l hl k x hx;obtain ⟨hok,⟨r,hrr⟩,hlt,hm⟩:=hx;have hkids:zgr (cut l (x.1:Int) (l.length:Int))=some (x.2.2.kids.map T.row):=by rw [yda,hrr,zjq _ (by have:=congrArg List.length hrr;rw [List.length_drop] at this;omega)];unfold zfl;rw [qem hok]
    have hko:zaa (w64 (1-(x.2.1:Int))) (x.2.2.kids.map T.row).length=true∧ix (x.2.2.kids.map T.row) (w64 (1-(x.2.1:Int)))=x.2.2.kid (1-x.2.1):=by
     obtain ⟨i0,j,s⟩:=x;simp only at hok hm h7 ⊢;cases s with
     |n0 n=>exact hm.elim
     |n1 n a=>have:ar n.1=some 1:=hok.1;rw [show n.1=7 from h7] at this;cases this
     |n2 n a b=>
      simp only at hm;rcases hm with ⟨rfl,_⟩|⟨rfl,_⟩
      ·exact ⟨rfl,rfl⟩
      ·exact ⟨rfl,rfl⟩
    simp only [cond_true,zld (show x.1≤l.length by omega) (Nat.le_refl _),hkids,hk,Option.bind_some,hko.1,hko.2,qrr (show (out.length+1)*24≤140737488355328 by omega)];rw [ztn l hl k xs hxl q (i+1) _ hq' hr (by simp;omega)];simp only [revB,if_neg h9,if_pos h7]
   ·rw [show (x.2.2.hd.1==7)=false by rw [beq_eq_false_iff_ne];exact h7];simp only [cond_false];rw [ztn l hl k xs hxl q (i+1) out hq' hr (by omega)];simp only [revB,if_neg h9,if_neg h7]
theorem ycw [Dfr] [zda] {l:List Nd} {t:T} (ht:tree l=some t) (hl:l.length≤1000000) (hs:l≠[]∧zbp l=l) {k:Nat} (hk:k∈t.wts 0):qhe l (k:Int)=some (zaz (t.path 0 k)):=by
 obtain ⟨hok,hrow⟩:=zht.1 ht;have hlen:l.length=t.size:=by rw [hrow,T.zab]
 have hkr:=qar t 0 k hk;have hp:=qsg l k t 0 [] hok (by rw [List.drop_zero,List.append_nil];exact hrow) (Nat.zero_le _) (by omega);have hpl:=T.zsa t 0 k;have hwl:((t.wts 0).map fun (k:Nat)=>(k:Int)).length≤4611686018427387904:=by rw [List.length_map,znd l t 0 [] (by rw [List.drop_zero,List.append_nil];exact hrow)];have:=List.length_filter_le (fun k=>zcw (l.getD k default).1&& !qei (t.path 0 k)) (List.range' 0 t.size);rw [List.length_range'] at this;omega
 have hmem:(k:Int)∈(t.wts 0).map fun (k:Nat)=>(k:Int):=List.mem_map.2 ⟨k,hk,rfl⟩
 have hov:((t.ovr k).map fun (i:Nat)=>(i:Int)).reverse=(t.path 0 k).reverse.map fun x=>(x.1:Int):=by unfold T.ovr;rw [List.map_map,←List.map_reverse];rfl
 have e:=ztn l hl k ((t.path 0 k).reverse.map fun x=>(x.1:Int)) (by simp;omega) (t.path 0 k).reverse 0 [] (fun x hx=>hp x (List.mem_reverse.1 hx)) rfl (Nat.le_refl _);rw [Int.natCast_zero] at e;rw [qwq,qka ht hl hs,Option.bind_some,zoo _ _ hwl,decide_eq_true hmem,qsb ht hl (by omega)];simp only [Option.bind_some,Bool.not_true,cond_false,hov,e,qmt];cases hb:(zaz (t.path 0 k)).2 with
 |true=>simp only [if_true];exact congrArg some (Prod.ext rfl hb.symm)
 |false=>simp only [Bool.false_eq_true,if_false];exact congrArg some (Prod.ext rfl hb.symm)
theorem zzs [Dfr]:∀(t:T),t.ok→t.size≤1000000000→zlb t.row=some t.bang
 | .n0 n,hok,hl=>by
   have hkid:zgr (T.n0 n).row=some []:=by rw [zjq _ (by rw [T.zab];exact hl)];unfold zfl;rw [qfo hok];rfl
   have e:ix (T.n0 n).row 0=n:=rfl;have e2:zaa 0 (T.n0 n).row.length=true:=rfl;rw [zwa,hkid];simp only [Option.bind_some,e,e2,cond_true];rcases ar0 hok with h|h|h|h|h<;>rw [T.bang,h]<;>rfl
 | .n1 n a,hok,hl=>by
   have hkid:zgr (T.n1 n a).row=some [a.row]:=by rw [zjq _ (by rw [T.zab];exact hl)];unfold zfl;rw [qfo hok];rfl
   have e:ix (T.n1 n a).row 0=n:=rfl;have e2:zaa 0 (T.n1 n a).row.length=true:=zax (by rw [T.zab];exact T.zww _);rw [zwa,hkid];simp only [Option.bind_some,e,e2,cond_true];rcases ar1 hok.1 with h|h<;>rw [T.bang,h]<;>rfl
 | .n2 n a b,hok,hl=>by
   have hkid:zgr (T.n2 n a b).row=some [a.row,b.row]:=by rw [zjq _ (by rw [T.zab];exact hl)];unfold zfl;rw [qfo hok];rfl
   have e:ix (T.n2 n a b).row 0=n:=rfl;have e2:zaa 0 (T.n2 n a b).row.length=true:=zax (by rw [T.zab];exact T.zww _);have e3:ix [a.row,b.row] 0=a.row:=rfl;have e4:ix [a.row,b.row] 1=b.row:=rfl;have i0:zaa 0 [a.row,b.row].length=true:=rfl;have i1:zaa 1 [a.row,b.row].length=true:=rfl;simp only [T.size] at hl;have ha:=zzs a hok.2.1 (by omega);have hb:=zzs b hok.2.2 (by omega);rw [zwa,hkid];simp only [Option.bind_some,e,e2,e3,e4,i0,i1,cond_true,ha,hb];rcases ar2 hok.1 with h|h|h|h|h|h|h<;>rw [T.bang,h]<;>first|rfl|(cases a.bang<;>rfl)
theorem ycy [Dfr] {l:List Nd} {t:T} (ht:tree l=some t) (hl:l.length≤1000000):zto l=some (decide (l≠[]∧zbp l=l)&&t.bang):=by
 obtain ⟨hok,hrow⟩:=zht.1 ht;have hlen:l.length=t.size:=by rw [hrow,T.zab]
 rw [qwr,zmp l (by omega)];by_cases hs:l≠[]∧zbp l=l
 ·rw [decide_eq_true hs];simp only [Option.bind_some,cond_true,Bool.true_and];rw [hrow,zzs t hok (by omega)];rfl
 ·rw [decide_eq_false hs];rfl
theorem yln [Dfr] [zda] {l:List Nd} {t:T} (ht:tree l=some t) (hl:l.length≤1000000) (hs:l≠[]∧zbp l=l) {k:Nat} (hk:k∈t.wts 0) (dm:List Nd→Bool) (hd:∀x∈(zaz (t.path 0 k)).1,zto x=some (dm x)) (hbl:(zaz (t.path 0 k)).1.length≤1000000):
 zxq l (k:Int)=some (!(zaz (t.path 0 k)).2||(zaz (t.path 0 k)).1.any dm):=by
 rw [yhw,ycw ht hl hs hk,Option.bind_some];cases hb:(zaz (t.path 0 k)).2 with
 |false=>rfl
 |true=>simp only [Bool.not_true,cond_false,Bool.false_or];rw [zom _ _ dm (by omega) (fun x hx=>(qtv x).trans (hd x hx))];rfl
theorem zco [Dfr] (B:List Tc) (fv:FnV) (g:Tc→Tc→List Tc) (a:Tc) (A:List Tc) (n i:Int) (hB:B.length≤1000000000)
 (hg:∀b∈B,dyn E fv [.agg [.slice 9 .str a.1 .no,.int .i64 a.2],.agg [.slice 9 .str b.1 .no,.int .i64 b.2]] (.slice 33 (.pair (.slice 9 .str) (.int .i64)))=some (g a b)):∀(r:List Tc) (j:Nat) (acc:List Tc),B.drop j=r→acc.length+(r.flatMap (g a)).length≤1000000000→
 zam B fv acc a A n i B (B.length:Int) (j:Int)=some (0,(B,fv,acc++r.flatMap (g a),A,n,i))
 |[],j,acc,h,hl=>by obtain ⟨h1,h2⟩:=drop_nil h;rw [zch];simp only [h2,cond_false,List.flatMap_nil,List.append_nil]
 |b::r,j,acc,h,hl=>by obtain ⟨h1,h2,h3,h4,h5,h6⟩:=zae h;have hm:b∈B:=List.mem_of_mem_drop (by rw [h];exact List.mem_cons_self ..);simp only [List.flatMap_cons,List.length_append] at hl;rw [zch];simp only [h2,h3,h4,cond_true,hg b hm,Option.bind_some,room (show (acc.length+(g a b).length)*32≤140737488355328 by omega),zbj (show j<9223372036854775807 by omega)];rw [zco B fv g a A n i hB hg r (j+1) (acc++g a b) h5 (by rw [List.length_append];omega)];simp only [List.flatMap_cons,List.append_assoc]
theorem zcp [Dfr] (B:List Tc) (fv:FnV) (g:Tc→Tc→List Tc) (A:List Tc) (hA:A.length≤1000000000) (hB:B.length≤1000000000)
 (hg:∀a∈A,∀b∈B,dyn E fv [.agg [.slice 9 .str a.1 .no,.int .i64 a.2],.agg [.slice 9 .str b.1 .no,.int .i64 b.2]] (.slice 33 (.pair (.slice 9 .str) (.int .i64)))=some (g a b)):∀(r:List Tc) (i:Nat) (acc:List Tc),A.drop i=r→acc.length+(zeh r B g).length≤1000000000→
 zan B fv acc A (A.length:Int) (i:Int)=some (0,acc++zeh r B g)
 |[],i,acc,h,hl=>by obtain ⟨h1,h2⟩:=drop_nil h;rw [zci];simp only [h2,cond_false,zeh,List.flatMap_nil,List.append_nil]
 |a::r,i,acc,h,hl=>by obtain ⟨h1,h2,h3,h4,h5,h6⟩:=zae h;have hm:a∈A:=List.mem_of_mem_drop (by rw [h];exact List.mem_cons_self ..);have hc:zeh (a::r) B g=B.flatMap (g a)++zeh r B g:=rfl;rw [hc,List.length_append] at hl;have e:=zco B fv g a A (A.length:Int) (i:Int) hB (hg a hm) B 0 acc rfl (by omega);rw [Int.natCast_zero] at e;rw [zci];simp only [h2,h3,h4,cond_true,e,Option.bind_some,zbj (show i<9223372036854775807 by omega)];rw [zcp B fv g A hA hB hg r (i+1) (acc++B.flatMap (g a)) h5 (by rw [List.length_append];omega),hc,List.append_assoc]
theorem zbh [Dfr] (A:List Tc) (B:List Tc) (fv:FnV) (g:Tc→Tc→List Tc) (hA:A.length≤1000000000) (hB:B.length≤1000000000) (hl:(zeh A B g).length≤1000000000)
 (hg:∀a∈A,∀b∈B,dyn E fv [.agg [.slice 9 .str a.1 .no,.int .i64 a.2],.agg [.slice 9 .str b.1 .no,.int .i64 b.2]] (.slice 33 (.pair (.slice 9 .str) (.int .i64)))=some (g a b)):zaj A B fv=some (zeh A B g):=by
 have e:=zcp B fv g A hA hB hg A 0 [] rfl (by simpa using hl);rw [Int.natCast_zero] at e;rw [zgs,e];rfl
theorem zdc [Dfr] (B:List Tc) (fv:FnV) (g:Tc→Tc→List Qc) (a:Tc) (A:List Tc) (n i:Int) (hB:B.length≤1000000000)
 (hg:∀b∈B,dyn E fv [.agg [.slice 9 .str a.1 .no,.int .i64 a.2],.agg [.slice 9 .str b.1 .no,.int .i64 b.2]] (.slice 139 (.pair (.pair (.slice 9 .str) (.int .i64)) (.pair (.slice 9 .str) (.int .i64))))=some (g a b)):∀(r:List Tc) (j:Nat) (acc:List Qc),B.drop j=r→acc.length+(r.flatMap (g a)).length≤1000000000→
 zaq B fv acc a A n i B (B.length:Int) (j:Int)=some (0,(B,fv,acc++r.flatMap (g a),A,n,i))
 |[],j,acc,h,hl=>by obtain ⟨h1,h2⟩:=drop_nil h;rw [zcq];simp only [h2,cond_false,List.flatMap_nil,List.append_nil]
 |b::r,j,acc,h,hl=>by obtain ⟨h1,h2,h3,h4,h5,h6⟩:=zae h;have hm:b∈B:=List.mem_of_mem_drop (by rw [h];exact List.mem_cons_self ..);simp only [List.flatMap_cons,List.length_append] at hl;rw [zcq];simp only [h2,h3,h4,cond_true,hg b hm,Option.bind_some,room (show (acc.length+(g a b).length)*64≤140737488355328 by omega),zbj (show j<9223372036854775807 by omega)];rw [zdc B fv g a A n i hB hg r (j+1) (acc++g a b) h5 (by rw [List.length_append];omega)];simp only [List.flatMap_cons,List.append_assoc]
theorem zdd [Dfr] (B:List Tc) (fv:FnV) (g:Tc→Tc→List Qc) (A:List Tc) (hA:A.length≤1000000000) (hB:B.length≤1000000000)
 (hg:∀a∈A,∀b∈B,dyn E fv [.agg [.slice 9 .str a.1 .no,.int .i64 a.2],.agg [.slice 9 .str b.1 .no,.int .i64 b.2]] (.slice 139 (.pair (.pair (.slice 9 .str) (.int .i64)) (.pair (.slice 9 .str) (.int .i64))))=some (g a b)):∀(r:List Tc) (i:Nat) (acc:List Qc),A.drop i=r→acc.length+(zeh r B g).length≤1000000000→
 zar B fv acc A (A.length:Int) (i:Int)=some (0,acc++zeh r B g)
 |[],i,acc,h,hl=>by obtain ⟨h1,h2⟩:=drop_nil h;rw [zcr];simp only [h2,cond_false,zeh,List.flatMap_nil,List.append_nil]
 |a::r,i,acc,h,hl=>by obtain ⟨h1,h2,h3,h4,h5,h6⟩:=zae h;have hm:a∈A:=List.mem_of_mem_drop (by rw [h];exact List.mem_cons_self ..);have hc:zeh (a::r) B g=B.flatMap (g a)++zeh r B g:=rfl;rw [hc,List.length_append] at hl;have e:=zdc B fv g a A (A.length:Int) (i:Int) hB (hg a hm) B 0 acc rfl (by omega);rw [Int.natCast_zero] at e;rw [zcr];simp only [h2,h3,h4,cond_true,e,Option.bind_some,zbj (show i<9223372036854775807 by omega)];rw [zdd B fv g A hA hB hg r (i+1) (acc++B.flatMap (g a)) h5 (by rw [List.length_append];omega),hc,List.append_assoc]
theorem zdn [Dfr] (A:List Tc) (B:List Tc) (fv:FnV) (g:Tc→Tc→List Qc) (hA:A.length≤1000000000) (hB:B.length≤1000000000) (hl:(zeh A B g).length≤1000000000)
 (hg:∀a∈A,∀b∈B,dyn E fv [.agg [.slice 9 .str a.1 .no,.int .i64 a.2],.agg [.slice 9 .str b.1 .no,.int .i64 b.2]] (.slice 139 (.pair (.pair (.slice 9 .str) (.int .i64)) (.pair (.slice 9 .str) (.int .i64))))=some (g a b)):zaw A B fv=some (zeh A B g):=by
 have e:=zdd B fv g A hA hB hg A 0 [] rfl (by simpa using hl);rw [Int.natCast_zero] at e;rw [zhd,e];rfl
theorem zec [Dfr] (B:List Qc) (fv:FnV) (g:Qc→Qc→List Qc) (a:Qc) (A:List Qc) (n i:Int) (hB:B.length≤1000000000)
 (hg:∀b∈B,dyn E fv [.agg [.slice 9 .str a.1.1 .no,.int .i64 a.1.2,.slice 9 .str a.2.1 .no,.int .i64 a.2.2],.agg [.slice 9 .str b.1.1 .no,.int .i64 b.1.2,.slice 9 .str b.2.1 .no,.int .i64 b.2.2]] (.slice 139 (.pair (.pair (.slice 9 .str) (.int .i64)) (.pair (.slice 9 .str) (.int .i64))))=some (g a b)):∀(r:List Qc) (j:Nat) (acc:List Qc),B.drop j=r→acc.length+(r.flatMap (g a)).length≤1000000000→
 zba B fv acc a A n i B (B.length:Int) (j:Int)=some (0,(B,fv,acc++r.flatMap (g a),A,n,i))
 |[],j,acc,h,hl=>by obtain ⟨h1,h2⟩:=drop_nil h;rw [zdq];simp only [h2,cond_false,List.flatMap_nil,List.append_nil]
 |b::r,j,acc,h,hl=>by obtain ⟨h1,h2,h3,h4,h5,h6⟩:=zae h;have hm:b∈B:=List.mem_of_mem_drop (by rw [h];exact List.mem_cons_self ..);simp only [List.flatMap_cons,List.length_append] at hl;rw [zdq];simp only [h2,h3,h4,cond_true,hg b hm,Option.bind_some,room (show (acc.length+(g a b).length)*64≤140737488355328 by omega),zbj (show j<9223372036854775807 by omega)];rw [zec B fv g a A n i hB hg r (j+1) (acc++g a b) h5 (by rw [List.length_append];omega)];simp only [List.flatMap_cons,List.append_assoc]
theorem zed [Dfr] (B:List Qc) (fv:FnV) (g:Qc→Qc→List Qc) (A:List Qc) (hA:A.length≤1000000000) (hB:B.length≤1000000000)
 (hg:∀a∈A,∀b∈B,dyn E fv [.agg [.slice 9 .str a.1.1 .no,.int .i64 a.1.2,.slice 9 .str a.2.1 .no,.int .i64 a.2.2],.agg [.slice 9 .str b.1.1 .no,.int .i64 b.1.2,.slice 9 .str b.2.1 .no,.int .i64 b.2.2]] (.slice 139 (.pair (.pair (.slice 9 .str) (.int .i64)) (.pair (.slice 9 .str) (.int .i64))))=some (g a b)):∀(r:List Qc) (i:Nat) (acc:List Qc),A.drop i=r→acc.length+(zeh r B g).length≤1000000000→
 zbb B fv acc A (A.length:Int) (i:Int)=some (0,acc++zeh r B g)
 |[],i,acc,h,hl=>by obtain ⟨h1,h2⟩:=drop_nil h;rw [zdr];simp only [h2,cond_false,zeh,List.flatMap_nil,List.append_nil]
 |a::r,i,acc,h,hl=>by obtain ⟨h1,h2,h3,h4,h5,h6⟩:=zae h;have hm:a∈A:=List.mem_of_mem_drop (by rw [h];exact List.mem_cons_self ..);have hc:zeh (a::r) B g=B.flatMap (g a)++zeh r B g:=rfl;rw [hc,List.length_append] at hl;have e:=zec B fv g a A (A.length:Int) (i:Int) hB (hg a hm) B 0 acc rfl (by omega);rw [Int.natCast_zero] at e;rw [zdr];simp only [h2,h3,h4,cond_true,e,Option.bind_some,zbj (show i<9223372036854775807 by omega)];rw [zed B fv g A hA hB hg r (i+1) (acc++B.flatMap (g a)) h5 (by rw [List.length_append];omega),hc,List.append_assoc]
theorem zeq [Dfr] (A:List Qc) (B:List Qc) (fv:FnV) (g:Qc→Qc→List Qc) (hA:A.length≤1000000000) (hB:B.length≤1000000000) (hl:(zeh A B g).length≤1000000000)
 (hg:∀a∈A,∀b∈B,dyn E fv [.agg [.slice 9 .str a.1.1 .no,.int .i64 a.1.2,.slice 9 .str a.2.1 .no,.int .i64 a.2.2],.agg [.slice 9 .str b.1.1 .no,.int .i64 b.1.2,.slice 9 .str b.2.1 .no,.int .i64 b.2.2]] (.slice 139 (.pair (.pair (.slice 9 .str) (.int .i64)) (.pair (.slice 9 .str) (.int .i64))))=some (g a b)):zbd A B fv=some (zeh A B g):=by
 have e:=zed B fv g A hA hB hg A 0 [] rfl (by simpa using hl);rw [Int.natCast_zero] at e;rw [zik,e];rfl
theorem zdo [Dfr] (B:List Tc) (fv:FnV) (g:Qc→Tc→List Qc) (a:Qc) (A:List Qc) (n i:Int) (hB:B.length≤1000000000)
 (hg:∀b∈B,dyn E fv [.agg [.slice 9 .str a.1.1 .no,.int .i64 a.1.2,.slice 9 .str a.2.1 .no,.int .i64 a.2.2],.agg [.slice 9 .str b.1 .no,.int .i64 b.2]] (.slice 139 (.pair (.pair (.slice 9 .str) (.int .i64)) (.pair (.slice 9 .str) (.int .i64))))=some (g a b)):∀(r:List Tc) (j:Nat) (acc:List Qc),B.drop j=r→acc.length+(r.flatMap (g a)).length≤1000000000→
 zat B fv acc a A n i B (B.length:Int) (j:Int)=some (0,(B,fv,acc++r.flatMap (g a),A,n,i))
 |[],j,acc,h,hl=>by obtain ⟨h1,h2⟩:=drop_nil h;rw [zde];simp only [h2,cond_false,List.flatMap_nil,List.append_nil]
 |b::r,j,acc,h,hl=>by obtain ⟨h1,h2,h3,h4,h5,h6⟩:=zae h;have hm:b∈B:=List.mem_of_mem_drop (by rw [h];exact List.mem_cons_self ..);simp only [List.flatMap_cons,List.length_append] at hl;rw [zde];simp only [h2,h3,h4,cond_true,hg b hm,Option.bind_some,room (show (acc.length+(g a b).length)*64≤140737488355328 by omega),zbj (show j<9223372036854775807 by omega)];rw [zdo B fv g a A n i hB hg r (j+1) (acc++g a b) h5 (by rw [List.length_append];omega)];simp only [List.flatMap_cons,List.append_assoc]
theorem zdp [Dfr] (B:List Tc) (fv:FnV) (g:Qc→Tc→List Qc) (A:List Qc) (hA:A.length≤1000000000) (hB:B.length≤1000000000)
 (hg:∀a∈A,∀b∈B,dyn E fv [.agg [.slice 9 .str a.1.1 .no,.int .i64 a.1.2,.slice 9 .str a.2.1 .no,.int .i64 a.2.2],.agg [.slice 9 .str b.1 .no,.int .i64 b.2]] (.slice 139 (.pair (.pair (.slice 9 .str) (.int .i64)) (.pair (.slice 9 .str) (.int .i64))))=some (g a b)):∀(r:List Qc) (i:Nat) (acc:List Qc),A.drop i=r→acc.length+(zeh r B g).length≤1000000000→
 zau B fv acc A (A.length:Int) (i:Int)=some (0,acc++zeh r B g)
 |[],i,acc,h,hl=>by obtain ⟨h1,h2⟩:=drop_nil h;rw [zdf];simp only [h2,cond_false,zeh,List.flatMap_nil,List.append_nil]
 |a::r,i,acc,h,hl=>by obtain ⟨h1,h2,h3,h4,h5,h6⟩:=zae h;have hm:a∈A:=List.mem_of_mem_drop (by rw [h];exact List.mem_cons_self ..);have hc:zeh (a::r) B g=B.flatMap (g a)++zeh r B g:=rfl;rw [hc,List.length_append] at hl;have e:=zdo B fv g a A (A.length:Int) (i:Int) hB (hg a hm) B 0 acc rfl (by omega);rw [Int.natCast_zero] at e;rw [zdf];simp only [h2,h3,h4,cond_true,e,Option.bind_some,zbj (show i<9223372036854775807 by omega)];rw [zdp B fv g A hA hB hg r (i+1) (acc++B.flatMap (g a)) h5 (by rw [List.length_append];omega),hc,List.append_assoc]
theorem zih [Dfr] (A:List Qc) (B:List Tc) (fv:FnV) (g:Qc→Tc→List Qc) (hA:A.length≤1000000000) (hB:B.length≤1000000000) (hl:(zeh A B g).length≤1000000000)
 (hg:∀a∈A,∀b∈B,dyn E fv [.agg [.slice 9 .str a.1.1 .no,.int .i64 a.1.2,.slice 9 .str a.2.1 .no,.int .i64 a.2.2],.agg [.slice 9 .str b.1 .no,.int .i64 b.2]] (.slice 139 (.pair (.pair (.slice 9 .str) (.int .i64)) (.pair (.slice 9 .str) (.int .i64))))=some (g a b)):zbw A B fv=some (zeh A B g):=by
 have e:=zdp B fv g A hA hB hg A 0 [] rfl (by simpa using hl);rw [Int.natCast_zero] at e;rw [zhs,e];rfl
def xdv (l:List Qc):Prop:=∀x∈l,x.1.1.length≤4611686018427387904∧x.2.1.length≤4611686018427387904
theorem qng [Dfr] (x y:Qc) (hx:x.1.1.length≤4611686018427387904∧x.2.1.length≤4611686018427387904):qlj x y=some (ordN (cmpQ x y)):=by rw [ycf,qav _ _ hx.1,Option.bind_some,qav _ _ hx.2,Option.bind_some,qfn,Option.bind_some];show _=some (ordN (Ordering.then _ _));rw [qsi]
theorem ygy [Dfr] (x y:Qc) (hx:x.1.1.length≤4611686018427387904∧x.2.1.length≤4611686018427387904):qli x y zlj=some (decide (cmpQ x y= .eq)):=by
 have e:dyn E ⟨zlj,[]⟩ [.agg [.slice 9 .str x.1.1 .no,.int .i64 x.1.2,.slice 9 .str x.2.1 .no,.int .i64 x.2.2],.agg [.slice 9 .str y.1.1 .no,.int .i64 y.1.2,.slice 9 .str y.2.1 .no,.int .i64 y.2.2]] (.int .i64)=some (ordN (cmpQ x y)):=
  (qfc x.1.1 x.1.2 x.2.1 x.2.2 y.1.1 y.1.2 y.2.1 y.2.2).trans (qng x y hx)
 rw [yce,e,Option.bind_some,qpb]
theorem zpd [Dfr] (l:List Qc) (hl:l.length≤1000000000) (hs:xdv l):zpq l=some (canon cmpQ l):=by
 rw [yks];simp only [Option.bind_fun_some];exact qbc (u:=.pair (.pair (.slice 9 .str) (.int .i64)) (.pair (.slice 9 .str) (.int .i64))) ordQ (by omega) (fun x hx y hy=>(qfc x.1.1 x.1.2 x.2.1 x.2.2 y.1.1 y.1.2 y.2.1 y.2.2).trans (qng x y (hs x hx)))
  (fun x hx y hy=>(qwc x.1.1 x.1.2 x.2.1 x.2.2 y.1.1 y.1.2 y.2.1 y.2.2 zlj).trans (ygy x y (hs x hx)))
theorem qje [Dfr] (p q:Tc) (h:p.1.length+q.1.length≤19):zzi p q=some (behT p q):=by rw [qwh,zne _ _ (by show p.1.length+q.1.length≤_;omega)];simp [ziv,behT]
theorem qwf [Dfr] (p q:Tc) (h:p.1.length+q.1.length≤19):qcc p q=some [ziv p q]:=by rw [qsv,zne _ _ (by omega)];rfl
theorem qwe [Dfr] (p q:Tc) (h:p.1.length+q.1.length≤19):qcb p q=some [qcp p q]:=by
 rw [qsu,qje p q h];unfold qcp;by_cases h2:p.2=2
 ·rw [show (p.2 != 2)=false by simp [h2],if_pos h2];rfl
 ·rw [show (p.2 != 2)=true by simpa using h2,if_neg h2];rfl
theorem qwg [Dfr] (p q:Tc):qcg p q=some [goF p q]:=by
 rw [qsz,zkw];unfold goF;by_cases h2:p.2=1
 ·rw [show (p.2 != 1)=false by simp [h2],if_pos h2];rfl
 ·rw [show (p.2 != 1)=true by simpa using h2,if_neg h2];rfl
theorem qsy [Dfr] (a b:Qc) (h1:a.1.1.length+b.1.1.length≤19) (h2:a.2.1.length+b.2.1.length≤19):zzh a b=some [seqF a b]:=by
 rw [qoi,zne a.1 b.1 (by omega),zne b.2 a.2 (by omega)];unfold seqF;by_cases h2:a.1.2=1
 ·rw [show (a.1.2 != 1)=false by simp [h2],if_pos h2];rfl
 ·rw [show (a.1.2 != 1)=true by simpa using h2,if_neg h2];rfl
theorem qsw [Dfr] (a:Qc) (c:Tc) (h:a.2.1.length+c.1.length≤19):zzf a c=some [(a.1,ziv a.2 c)]:=by rw [qog,zne a.2 c (by omega)];rfl
theorem qsx [Dfr] [qnp] (a b:Qc) (h1:a.1.1.length+b.1.1.length≤19) (h2:a.2.1.length+b.2.1.length≤19) (h3:(parF a b).length≤1000000000):zzg a b=some (parF a b):=by
 have hl:∀(e:Int) (p q:List ByteArray),p.length+q.length≤19→(parE e p q).length≤1000000000:=fun e p q h=>by have:=qfd (a:=p) (b:=q) h;unfold parE;rw [List.length_map];omega
 rw [qoh,qft _ _ h1,Option.bind_some,qft _ _ h2,Option.bind_some];have e0:parF a b=zeh (parE (bs a.1.2 b.1.2) a.1.1 b.1.1) (parE (bs a.2.2 b.2.2) a.2.1 b.2.1) fun p q=>[(p,q)]:=by
  unfold parF zeh
  congr 1
  funext p;exact List.map_eq_flatMap
 rw [zdn _ _ _ (fun p q=>[(p,q)]) (hl _ _ _ h1) (hl _ _ _ h2) (by rw [←e0];exact h3)
  (fun p _ q _=>(qgs p.1 p.2 q.1 q.2).trans (qjd p q)),e0]
 rfl
theorem qnh [Dfr] (A B:List Tc) (hA:A.length≤1000000000) (hB:B.length≤1000000000) (hl:(zhr A B goF).length≤1000000000):qdx A B=some (zhr A B goF):=by rw [ycg,zdn A B _ (fun p q=>[goF p q]) hA hB hl (fun p _ q _=>(qoj p.1 p.2 q.1 q.2).trans (qwg p q))];rfl
theorem zpr [Dfr] (Q:List Qc) (hQ:Q.length≤1000000000) (hs:∀x∈Q,x.1.1.length+x.2.1.length≤19):∀(r:List Qc) (i:Nat) (acc:List Tc),Q.drop i=r→acc.length≤i→zlk acc Q (Q.length:Int) (i:Int)=some (0,acc++r.flatMap blkF)
 |[],i,acc,h,ha=>by obtain ⟨h1,h2⟩:=drop_nil h;rw [qah];simp only [h2,cond_false,List.flatMap_nil,List.append_nil]
 |x::r,i,acc,h,ha=>by
  obtain ⟨h1,h2,h3,h4,h5,h6⟩:=zae h;have hm:=hs x (List.mem_of_mem_drop (by rw [h];exact List.mem_cons_self ..));have hw:=zbj (show i<9223372036854775807 by omega);rw [qah];simp only [h2,h3,h4,cond_true,qje x.1 x.2 hm,Option.bind_some,room (show (acc.length+1)*32≤140737488355328 by omega),hw,List.flatMap_cons];unfold blkF;by_cases e1:x.1.2=1
  ·rw [show (x.1.2==1)=true by simp [e1],if_pos e1,cond_true,zpr Q hQ hs r (i+1) _ h5 (by simp;omega),List.append_assoc];rfl
  ·rw [show (x.1.2==1)=false by simpa using e1,if_neg e1,cond_false];by_cases e2:x.1.2=2
   ·rw [show (x.1.2==2)=true by simp [e2],if_pos e2,cond_true,zpr Q hQ hs r (i+1) _ h5 (by simp;omega),List.append_assoc];rfl
   ·rw [show (x.1.2==2)=false by simpa using e2,if_neg e2,cond_false,zpr Q hQ hs r (i+1) _ h5 (by omega)];rfl
theorem qcd [Dfr] (l:List Nd) (hl:0<l.length) (C:List Tc) (hC:C.length≤1000000000):∀(r:List Tc) (i:Nat) (acc:List Qc),C.drop i=r→acc.length≤i→zps l acc C (C.length:Int) (i:Int)=some (0,acc++r.map fun q=>(([],(ix l 0).2.2),q))
 |[],i,acc,h,ha=>by obtain ⟨h1,h2⟩:=drop_nil h;rw [zxl];simp only [h2,cond_false,List.map_nil,List.append_nil]
 |x::r,i,acc,h,ha=>by obtain ⟨h1,h2,h3,h4,h5,h6⟩:=zae h;rw [zxl];simp only [h2,h3,h4,cond_true,zax hl,zkw,Option.bind_some,room (show (acc.length+1)*64≤140737488355328 by omega),zbj (show i<9223372036854775807 by omega),List.map_cons];rw [qcd l hl C hC r (i+1) _ h5 (by simp;omega),List.append_assoc];rfl
theorem znu [Dfr] {m:Tm} (h:m.small):m.size≤100000:=by have:=h.1;omega
theorem zcl [Dfr] {m:Tm} (h:m.small):∀x∈m.tr,x.1.length≤6:=fun x hx=>Nat.le_trans (Tm.yvv hx) h.2
theorem zdy [Dfr] {m:Tm} (h:m.small):∀x∈m.pq,x.1.1.length+x.2.1.length≤6:=fun x hx=>Nat.le_trans (Tm.yvx hx) h.2
theorem qid [Dfr] {m:Tm} (h:m.small):m.big≤400000000:=Tm.yxo h.1 h.2
theorem zln [Dfr] {m:Tm} (h:m.small):m.tr.length≤400000000∧m.pq.length≤400000000:=⟨Nat.le_trans (Tm.zbr m).1 (qid h),Nat.le_trans (Tm.zbr m).2 (qid h)⟩
def fewT (l:List Tc):Prop:=∀x∈l,x.1.length≤12
theorem fewT.short [Dfr] {l:List Tc} (h:fewT l):zwz l:=fun x hx=>by have:=h x hx;omega
def fewQ (l:List Qc):Prop:=∀x∈l,x.1.1.length≤12∧x.2.1.length≤12
theorem fewQ.short [Dfr] {l:List Qc} (h:fewQ l):xdv l:=fun x hx=>by have:=h x hx;omega
theorem qpe [Dfr] (p q:Tc):(ziv p q).1.length≤p.1.length+q.1.length:=by
 unfold ziv;split
 ·rw [List.length_append];exact Nat.le_refl _
 ·omega
theorem sm2 [Dfr] {a b m:Tm} (h:m.small) (hs:m.size=a.size+b.size+1) (hn:m.nm=a.nm++b.nm):a.small∧b.small:=by obtain ⟨h1,h2⟩:=h;rw [hn,List.length_append] at h2;exact ⟨⟨by omega,by omega⟩,⟨by omega,by omega⟩⟩
theorem sm1 [Dfr] {a m:Tm} (h:m.small) (hs:m.size=a.size+1) (hn:m.nm=a.nm):a.small:=by obtain ⟨h1,h2⟩:=h;rw [hn] at h2;exact ⟨by omega,h2⟩
theorem zkv [Dfr] [qnp]:∀m:Tm,m.small→(m.po=true→zeb m.row=some m.tr)∧(m.qo=true→zhm m.row=some m.pq)
 | .act s,h=>⟨fun _=>by have hk:=qtg (.act s) rfl (znu h);have hx:ix (Tm.act s).row 0=(1,s,0):=rfl;have hi:zaa 0 (Tm.act s).row.length=true:=rfl;have hset:=zgb [([s],1)] (by simp) (fun x hx=>by rw [List.mem_singleton.1 hx];simp);rw [zfk,hk];simp only [Option.bind_some,hx,hi,cond_true,hset];rfl,fun h=>by simp [Tm.qo] at h⟩
 | .skip,h=>⟨fun _=>by have hk:=qtg .skip rfl (znu h);have hx:ix Tm.skip.row 0=nd 2:=rfl;have hi:zaa 0 Tm.skip.row.length=true:=rfl;have hset:=zgb [([],1)] (by simp) (fun x hx=>by rw [List.mem_singleton.1 hx];simp);rw [zfk,hk];simp only [Option.bind_some,hx,hi,cond_true,zkw,hset];rfl,fun h=>by simp [Tm.qo] at h⟩
 | .throw,h=>⟨fun _=>by have hk:=qtg .throw rfl (znu h);have hx:ix Tm.throw.row 0=nd 3:=rfl;have hi:zaa 0 Tm.throw.row.length=true:=rfl;have hset:=zgb [([],2)] (by simp) (fun x hx=>by rw [List.mem_singleton.1 hx];simp);rw [zfk,hk];simp only [Option.bind_some,hx,hi,cond_true,zkw,hset];rfl,fun h=>by simp [Tm.qo] at h⟩
 | .yield,h=>⟨fun _=>by have hk:=qtg .yield rfl (znu h);have hx:ix Tm.yield.row 0=nd 4:=rfl;have hi:zaa 0 Tm.yield.row.length=true:=rfl;have hset:=zgb [([],1),([],3)] (by simp) (fun x hx=>by simp at hx;rcases hx with h|h<;>rw [h]<;>simp);rw [zfk,hk];simp only [Option.bind_some,hx,hi,cond_true,zkw,hset];rfl,fun h=>by simp [Tm.qo] at h⟩
 | .over s,h=>⟨fun _=>by have hk:=qtg (.over s) rfl (znu h);have hx:ix (Tm.over s).row 0=(11,ByteArray.empty,s):=rfl;have hi:zaa 0 (Tm.over s).row.length=true:=rfl;have hset:=zgb [([],s)] (by simp) (fun x hx=>by rw [List.mem_singleton.1 hx];simp);rw [zfk,hk];simp only [Option.bind_some,hx,hi,cond_true,zkw,hset];rfl,fun h=>by simp [Tm.qo] at h⟩
 | .seq a b,h=>by
   obtain ⟨ha,hb⟩:=sm2 h (Tm.zbf a b) rfl;have hk:=qgu (.seq a b) rfl (znu h);have hx:ix (Tm.seq a b).row 0=nd 5:=rfl;have hi:zaa 0 (Tm.seq a b).row.length=true:=zax (by rw [Tm.zab];exact Tm.zdj _);have i0:ix [a.row,b.row] 0=a.row:=rfl;have i1:ix [a.row,b.row] 1=b.row:=rfl;have j0:zaa 0 [a.row,b.row].length=true:=rfl;have j1:zaa 1 [a.row,b.row].length=true:=rfl;refine ⟨fun ho=> ?_,fun ho=> ?_⟩
   ·simp only [Tm.po,Bool.and_eq_true] at ho;have ea:=(zkv a ha).1 ho.1;have eb:=(zkv b hb).1 (Tm.zcg ho.2);have hl:=Tm.zmh (f:=ziv) (Tm.zbr a).1 (Tm.zbr b).1 (m:=.seq a b) rfl (Nat.le_refl _);have hbig:=qid h;have ec:=zbh a.tr b.tr ⟨zth,[]⟩ (fun p q=>[ziv p q]) (by have:=(zln ha).1;omega) (by have:=(zln hb).1;omega) (by unfold zhr at hl;omega)
     (fun p hp q hq=>(qof p.1 p.2 q.1 q.2).trans (qwf p q (by have:=zcl ha p hp;have:=zcl hb q hq;omega)))
    have es:=zgb (zhr a.tr b.tr ziv) (by omega) (fewT.short fun x hx=>by obtain ⟨p,hp,q,hq,rfl⟩:=zgy.1 hx;have:=zcl ha p hp;have:=zcl hb q hq;have:=qpe p q;omega);unfold zhr at es;rw [zfk,hk];simp only [Option.bind_some,hx,hi,cond_true,i0,i1,j0,j1,ea,eb,ec,es];rfl
   ·simp only [Tm.qo,Bool.and_eq_true] at ho;have ea:=(zkv a ha).2 ho.1;have eb:=(zkv b hb).2 (Tm.zja ho.2);have hl:=Tm.zmh (f:=seqF) (Tm.zbr a).2 (Tm.zbr b).2 (m:=.seq a b) rfl (Nat.le_refl _);have hbig:=qid h;have ec:=zeq a.pq b.pq ⟨zqy,[]⟩ (fun p q=>[seqF p q]) (by have:=(zln ha).2;omega) (by have:=(zln hb).2;omega) (by unfold zhr at hl;omega)
     (fun p hp q hq=>(qlm p.1.1 p.1.2 p.2.1 p.2.2 q.1.1 q.1.2 q.2.1 q.2.2).trans (qsy p q (by have:=zdy ha p hp;have:=zdy hb q hq;omega) (by have:=zdy ha p hp;have:=zdy hb q hq;omega)))
    have es:=zpd (zhr a.pq b.pq seqF) (by omega) (fewQ.short fun x hx=>by
     obtain ⟨p,hp,q,hq,rfl⟩:=zgy.1 hx;have:=zdy ha p hp;have:=zdy hb q hq;unfold seqF;split
     ·have:=qpe p.1 q.1;have:=qpe q.2 p.2;exact ⟨by show (ziv p.1 q.1).1.length≤12;omega,by show (ziv q.2 p.2).1.length≤12;omega⟩
     ·exact ⟨by omega,by omega⟩)
    unfold zhr at es;rw [zhl,hk];simp only [Option.bind_some,hx,hi,cond_true,i0,i1,j0,j1,ea,eb,ec,es];rfl
 | .alt a b,h=>by
   obtain ⟨ha,hb⟩:=sm2 h (Tm.zuh a b) rfl;have hk:=qgu (.alt a b) rfl (znu h);have hx:ix (Tm.alt a b).row 0=nd 6:=rfl;have hi:zaa 0 (Tm.alt a b).row.length=true:=zax (by rw [Tm.zab];exact Tm.zdj _);have i0:ix [a.row,b.row] 0=a.row:=rfl;have i1:ix [a.row,b.row] 1=b.row:=rfl;have j0:zaa 0 [a.row,b.row].length=true:=rfl;have j1:zaa 1 [a.row,b.row].length=true:=rfl;have la:=zln ha;have lb:=zln hb;refine ⟨fun ho=> ?_,fun ho=> ?_⟩
   ·simp only [Tm.po,Bool.and_eq_true] at ho;have ea:=(zkv a ha).1 (Tm.zcg ho.1);have eb:=(zkv b hb).1 (Tm.zcg ho.2);have ec:=zrn [a.tr,b.tr] (by simp only [zdb];omega) (by simp);rw [show [a.tr,b.tr].flatten=a.tr++b.tr by simp] at ec;have es:=zgb (a.tr++b.tr) (by rw [List.length_append];omega) (fewT.short fun x hx=>by
     rcases List.mem_append.1 hx with hx|hx
     ·have:=zcl ha x hx;omega
     ·have:=zcl hb x hx;omega)
    rw [zfk,hk];simp only [Option.bind_some,hx,hi,cond_true,i0,i1,j0,j1,ea,eb,ec,es];rfl
   ·simp only [Tm.qo,Bool.and_eq_true] at ho;have ea:=(zkv a ha).2 (Tm.zja ho.1);have eb:=(zkv b hb).2 (Tm.zja ho.2);have ec:=ztv [a.pq,b.pq] (by simp only [zdb];omega) (by simp);rw [show [a.pq,b.pq].flatten=a.pq++b.pq by simp] at ec;have es:=zpd (a.pq++b.pq) (by rw [List.length_append];omega) (fewQ.short fun x hx=>by
     rcases List.mem_append.1 hx with hx|hx
     ·have:=zdy ha x hx;omega
     ·have:=zdy hb x hx;omega)
    rw [zhl,hk];simp only [Option.bind_some,hx,hi,cond_true,i0,i1,j0,j1,ea,eb,ec,es];rfl
 | .par a b,h=>by
   obtain ⟨ha,hb⟩:=sm2 h (Tm.zbv a b) rfl;have hk:=qgu (.par a b) rfl (znu h);have hx:ix (Tm.par a b).row 0=nd 7:=rfl;have hi:zaa 0 (Tm.par a b).row.length=true:=zax (by rw [Tm.zab];exact Tm.zdj _);have i0:ix [a.row,b.row] 0=a.row:=rfl;have i1:ix [a.row,b.row] 1=b.row:=rfl;have j0:zaa 0 [a.row,b.row].length=true:=rfl;have j1:zaa 1 [a.row,b.row].length=true:=rfl;have hbig:=qid h;refine ⟨fun ho=> ?_,fun ho=> ?_⟩
   ·simp only [Tm.po,Bool.and_eq_true] at ho;have ea:=(zkv a ha).1 ho.1;have eb:=(zkv b hb).1 ho.2;have hl:=Tm.yui (Tm.zbr a).1 (Tm.zbr b).1;have ec:=zbh a.tr b.tr ⟨qat,[]⟩ (fun p q=>parE (bs p.2 q.2) p.1 q.1) (by have:=(zln ha).1;omega) (by have:=(zln hb).1;omega) (by omega)
     (fun p hp q hq=>(qzg p.1 p.2 q.1 q.2).trans (qft p q (by have:=zcl ha p hp;have:=zcl hb q hq;omega)))
    have es:=zgb (zeh a.tr b.tr fun p q=>parE (bs p.2 q.2) p.1 q.1) (by omega) (fewT.short fun x hx=>by obtain ⟨p,hp,q,hq,hx⟩:=zxk.1 hx;have:=(qdw.1 hx).1.len;have:=zcl ha p hp;have:=zcl hb q hq;omega);rw [zfk,hk];simp only [Option.bind_some,hx,hi,cond_true,i0,i1,j0,j1,ea,eb,ec,es];rfl
   ·simp only [Tm.qo,Bool.and_eq_true] at ho;have ea:=(zkv a ha).2 ho.1;have eb:=(zkv b hb).2 ho.2;have hl:=Tm.yne (Tm.zbr a).2 (Tm.zbr b).2;have ec:=zeq a.pq b.pq ⟨zqx,[]⟩ parF (by have:=(zln ha).2;omega) (by have:=(zln hb).2;omega) (by omega)
     (fun p hp q hq=>(qll p.1.1 p.1.2 p.2.1 p.2.2 q.1.1 q.1.2 q.2.1 q.2.2).trans (qsx p q (by have:=zdy ha p hp;have:=zdy hb q hq;omega) (by have:=zdy ha p hp;have:=zdy hb q hq;omega) (by have h1:=Tm.ynq p q;have h2:=yol (p.1.1.length+p.2.1.length) (q.1.1.length+q.2.1.length);have h3:2 ^ (p.1.1.length+p.2.1.length+(q.1.1.length+q.2.1.length))≤2 ^ 12:=Nat.pow_le_pow_right (by omega) (by have:=zdy ha p hp;have:=zdy hb q hq;omega);omega)))
    have es:=zpd (zeh a.pq b.pq parF) (by omega) (fewQ.short fun x hx=>by obtain ⟨p,hp,q,hq,hx⟩:=zxk.1 hx;obtain ⟨⟨h1,_⟩,h2,_⟩:=Tm.ynm.1 hx;have:=h1.len;have:=h2.len;have:=zdy ha p hp;have:=zdy hb q hq;omega);rw [zhl,hk];simp only [Option.bind_some,hx,hi,cond_true,i0,i1,j0,j1,ea,eb,ec,es];rfl
 | .hand a b,h=>by
   obtain ⟨ha,hb⟩:=sm2 h (Tm.zbk a b) rfl;have hk:=qgu (.hand a b) rfl (znu h);have hx:ix (Tm.hand a b).row 0=nd 8:=rfl;have hi:zaa 0 (Tm.hand a b).row.length=true:=zax (by rw [Tm.zab];exact Tm.zdj _);have i0:ix [a.row,b.row] 0=a.row:=rfl;have i1:ix [a.row,b.row] 1=b.row:=rfl;have j0:zaa 0 [a.row,b.row].length=true:=rfl;have j1:zaa 1 [a.row,b.row].length=true:=rfl;have hbig:=qid h;refine ⟨fun ho=> ?_,fun ho=>by simp [Tm.qo] at ho⟩;simp only [Tm.po,Bool.and_eq_true] at ho;have ea:=(zkv a ha).1 ho.1;have eb:=(zkv b hb).1 (Tm.zcg ho.2);have hl:=Tm.zmh (f:=qcp) (Tm.zbr a).1 (Tm.zbr b).1 (m:=.hand a b) rfl (Nat.le_refl _);have ec:=zbh a.tr b.tr ⟨ztg,[]⟩ (fun p q=>[qcp p q]) (by have:=(zln ha).1;omega) (by have:=(zln hb).1;omega) (by unfold zhr at hl;omega)
    (fun p hp q hq=>(qoe p.1 p.2 q.1 q.2).trans (qwe p q (by have:=zcl ha p hp;have:=zcl hb q hq;omega)))
   have es:=zgb (zhr a.tr b.tr qcp) (by omega) (fewT.short fun x hx=>by
    obtain ⟨p,hp,q,hq,rfl⟩:=zgy.1 hx;have:=zcl ha p hp;have:=zcl hb q hq;unfold qcp behT;split
    ·simp only [List.length_append];omega
    ·omega)
   unfold zhr at es;rw [zfk,hk];simp only [Option.bind_some,hx,hi,cond_true,i0,i1,j0,j1,ea,eb,ec,es];rfl
 | .block a,h=>by
   have ha:=sm1 h (Tm.zav a) rfl;have hk:=yqq (.block a) rfl (znu h);have hx:ix (Tm.block a).row 0=nd 9:=rfl;have hi:zaa 0 (Tm.block a).row.length=true:=zax (by rw [Tm.zab];exact Tm.zdj _);have i0:ix [a.row] 0=a.row:=rfl;have j0:zaa 0 [a.row].length=true:=rfl;have la:=(zln ha).2;refine ⟨fun ho=> ?_,fun ho=>by simp [Tm.qo] at ho⟩;simp only [Tm.po] at ho;have ea:=(zkv a ha).2 ho;have ec:=zpr a.pq (by omega) (fun x hx=>by have:=zdy ha x hx;omega) a.pq 0 [] rfl (by simp);rw [Int.natCast_zero] at ec;have hl:=Tm.yge (Q:=a.pq);have es:=zgb (a.pq.flatMap blkF) (by omega) (fewT.short fun x hx=>by
    obtain ⟨z,hz,hx⟩:=List.mem_flatMap.1 hx;have:=zdy ha z hz;rcases Tm.yno.1 hx with ⟨_,rfl⟩|⟨_,rfl⟩
    ·omega
    ·unfold behT;simp only [List.length_append];omega)
   rw [zfk,hk];simp only [Option.bind_some,hx,hi,cond_true,i0,j0,ea,ec,List.nil_append,es];rfl
 | .pair a b,h=>by
   obtain ⟨ha,hb⟩:=sm2 h (Tm.zwx a b) rfl;have hk:=qgu (.pair a b) rfl (znu h);have hx:ix (Tm.pair a b).row 0=nd 10:=rfl;have hi:zaa 0 (Tm.pair a b).row.length=true:=zax (by rw [Tm.zab];exact Tm.zdj _);have i0:ix [a.row,b.row] 0=a.row:=rfl;have i1:ix [a.row,b.row] 1=b.row:=rfl;have j0:zaa 0 [a.row,b.row].length=true:=rfl;have j1:zaa 1 [a.row,b.row].length=true:=rfl;have hbig:=qid h;refine ⟨fun ho=>by simp [Tm.po] at ho,fun ho=> ?_⟩;simp only [Tm.qo,Bool.and_eq_true] at ho;have ea:=(zkv a ha).1 (Tm.zcg ho.1);have eb:=(zkv b hb).1 (Tm.zcg ho.2);have hl:=Tm.ynf (Tm.zbr a).1 (Tm.zbr b).1;have ec:=qnh a.tr b.tr (by have:=(zln ha).1;omega) (by have:=(zln hb).1;omega) (by omega);have es:=zpd (zhr a.tr b.tr goF++[(([],3),([],1))]) (by rw [List.length_append,List.length_singleton];omega) (fewQ.short fun x hx=>by
    rcases List.mem_append.1 hx with hx|hx
    ·obtain ⟨p,hp,q,hq,rfl⟩:=zgy.1 hx;have:=zcl ha p hp;have:=zcl hb q hq;refine ⟨by show p.1.length≤12;omega,?_⟩;show (if p.2=1 then q else ([],1)).1.length≤12;split
     ·omega
     ·simp
    ·rw [List.mem_singleton.1 hx];simp)
   rw [zhl,hk];simp only [Option.bind_some,hx,hi,cond_true,i0,i1,j0,j1,ea,eb,ec,zkw,room (show ((zhr a.tr b.tr goF).length+1)*64≤140737488355328 by omega),es];rfl
 | .going a b,h=>by
   obtain ⟨ha,hb⟩:=sm2 h (Tm.zca a b) rfl;have hk:=qgu (.going a b) rfl (znu h);have hx:ix (Tm.going a b).row 0=nd 12:=rfl;have hi:zaa 0 (Tm.going a b).row.length=true:=zax (by rw [Tm.zab];exact Tm.zdj _);have i0:ix [a.row,b.row] 0=a.row:=rfl;have i1:ix [a.row,b.row] 1=b.row:=rfl;have j0:zaa 0 [a.row,b.row].length=true:=rfl;have j1:zaa 1 [a.row,b.row].length=true:=rfl;have hbig:=qid h;refine ⟨fun ho=>by simp [Tm.po] at ho,fun ho=> ?_⟩;simp only [Tm.qo,Bool.and_eq_true] at ho;have ea:=(zkv a ha).1 ho.1;have eb:=(zkv b hb).1 (Tm.zcg ho.2);have hl:=Tm.zmh (f:=goF) (Tm.zbr a).1 (Tm.zbr b).1 (m:=.going a b) rfl (Nat.le_refl _);have ec:=qnh a.tr b.tr (by have:=(zln ha).1;omega) (by have:=(zln hb).1;omega) (by omega);have es:=zpd (zhr a.tr b.tr goF) (by omega) (fewQ.short fun x hx=>by
    obtain ⟨p,hp,q,hq,rfl⟩:=zgy.1 hx;have:=zcl ha p hp;have:=zcl hb q hq;refine ⟨by show p.1.length≤12;omega,?_⟩;show (if p.2=1 then q else ([],1)).1.length≤12;split
    ·omega
    ·simp)
   rw [zhl,hk];simp only [Option.bind_some,hx,hi,cond_true,i0,i1,j0,j1,ea,eb,ec,es];rfl
 | .stack a c,h=>by
   obtain ⟨ha,hb⟩:=sm2 h (Tm.zcx a c) rfl;have hk:=qgu (.stack a c) rfl (znu h);have hx:ix (Tm.stack a c).row 0=nd 13:=rfl;have hi:zaa 0 (Tm.stack a c).row.length=true:=zax (by rw [Tm.zab];exact Tm.zdj _);have i0:ix [a.row,c.row] 0=a.row:=rfl;have i1:ix [a.row,c.row] 1=c.row:=rfl;have j0:zaa 0 [a.row,c.row].length=true:=rfl;have j1:zaa 1 [a.row,c.row].length=true:=rfl;have hbig:=qid h;refine ⟨fun ho=>by simp [Tm.po] at ho,fun ho=> ?_⟩;simp only [Tm.qo,Bool.and_eq_true] at ho;have ea:=(zkv a ha).2 ho.1;have eb:=(zkv c hb).1 (Tm.zcg ho.2);have hl:=Tm.zmh (f:=fun (x:Qc) (q:Tc)=>(x.1,ziv x.2 q)) (Tm.zbr a).2 (Tm.zbr c).1 (m:=.stack a c) rfl (Nat.le_refl _);have ec:=zih a.pq c.tr ⟨zqw,[]⟩ (fun x q=>[(x.1,ziv x.2 q)]) (by have:=(zln ha).2;omega) (by have:=(zln hb).1;omega) (Nat.le_trans hl (by omega))
    (fun p hp q hq=>(qlk p.1.1 p.1.2 p.2.1 p.2.2 q.1 q.2).trans (qsw p q (by have:=zdy ha p hp;have:=zcl hb q hq;omega)))
   have es:=zpd (zhr a.pq c.tr fun (x:Qc) (q:Tc)=>(x.1,ziv x.2 q)) (by omega) (fewQ.short fun x hx=>by obtain ⟨p,hp,q,hq,rfl⟩:=zgy.1 hx;have:=zdy ha p hp;have:=zcl hb q hq;have:=qpe p.2 q;exact ⟨by show p.1.1.length≤12;omega,by show (ziv p.2 q).1.length≤12;omega⟩);unfold zhr at es;rw [zhl,hk];simp only [Option.bind_some,hx,hi,cond_true,i0,i1,j0,j1,ea,eb,ec,es];rfl
 | .fin s c,h=>by have ha:=sm1 h (Tm.zcn s c) rfl;have hk:=yqq (.fin s c) rfl (znu h);have hx:ix (Tm.fin s c).row 0=(14,ByteArray.empty,s):=rfl;have hi:zaa 0 (Tm.fin s c).row.length=true:=zax (by rw [Tm.zab];exact Tm.zdj _);have i0:ix [c.row] 0=c.row:=rfl;have j0:zaa 0 [c.row].length=true:=rfl;have la:=(zln ha).1;refine ⟨fun ho=>by simp [Tm.po] at ho,fun ho=> ?_⟩;simp only [Tm.qo] at ho;have ea:=(zkv c ha).1 (Tm.zcg ho);have ec:=qcd (Tm.fin s c).row (by rw [Tm.zab];exact Tm.zdj _) c.tr (by omega) c.tr 0 [] rfl (by simp);rw [Int.natCast_zero,hx] at ec;have es:=zpd (c.tr.map fun q=>(([],s),q)) (by rw [List.length_map];omega) (fewQ.short fun x hx=>by obtain ⟨q,hq,rfl⟩:=List.mem_map.1 hx;have:=zcl ha q hq;exact ⟨by simp,by show q.1.length≤12;omega⟩);rw [zhl,hk];simp only [Option.bind_some,hx,hi,cond_true,i0,j0,ea,ec,List.nil_append,es];rfl
end Go.Proofs.YtjolkdjkhekbnaaGreatDoor.Sv
