/- What runs draws no less than before: the count of draws never falls. -/
import Derived.Test.YtjolkdjkhekbnaaGreatDoorEv8
import Derived.Maps.OwnIn
import Derived.OwnWalkIn
import Derived.RangeFuncSeq
import Derived.RangeFuncRecord
namespace Go.Sv
open Go
open Go.Maps (Keyed)
theorem qjx {ε α β:Type} {x:Except ε α} {f:α→Except ε β} {r:β} (h:(x >>= f)= .ok r):∃a,x= .ok a∧f a= .ok r:=by
 cases x with
 |ok a=>exact ⟨a,rfl,h⟩
 |error e=>cases h
theorem qif {α:Type}:∀(k:Ask α) (w:World),w.drawn≤(w.ask k).2.drawn
 | .done a,w=>Nat.le_refl _
 | .ask what range k,w=>by
   unfold World.ask
   simp only
   split
   ·exact qif (k 0) w
   ·exact Nat.le_trans (Nat.le_succ _) (qif (k _) {w with drawn:=w.drawn+1})
theorem yco (w:World) (c:Sys):w.drawn≤(w.sys c).2.drawn:=by
 have h:=qif (Kernel.perform c w.os) w
 unfold World.sys
 revert h
 generalize w.ask (Kernel.perform c w.os)=x
 intro h
 split
 ·exact Nat.le_refl _
 ·exact h
theorem qek {P:Program} {w:World} {at_:Addr} {u:TypeId} {k:Addr} {v:Value} {at2:Bool} {r:World×List Addr} (h:w.viewStore P at_ u k v at2= .ok r):r.1.drawn=w.drawn:=by
 unfold World.viewStore at h
 repeat' (first
  |(cases h;rfl)
  |(cases h;done)
  |(obtain ⟨x,hx,h⟩:=qjx h)
  |(split at h))
theorem qjw {P:Program} {w:World} {a:Addr} {v:Value} {at2:Bool} {r:World×List Addr} (h:w.farStore P a v at2= .ok r):r.1.drawn=w.drawn:=by
 unfold World.farStore at h
 split at h
 ·split at h
  ·rename_i hv;cases h;exact qek hv
  ·cases h
 ·cases h
theorem zcb {α:Type} {P:Program}:∀(e:Sem α) {w w':World} {a:α},e.run P w= .ok a w'→w.drawn≤w'.drawn
 | .pure _,w,w',a,h=>by cases h;exact Nat.le_refl _
 | .load m x k,w,w',a,h=>by
   simp only [Sem.run] at h
   split at h
   ·exact zcb (k _) h
   ·split at h
    ·exact zcb (k _) h
    ·cases h
 | .store m x v k,w,w',a,h=>by
   have fin:(match w.cell? x with
    |some _=>if w.frozen? x then Result.halt (.unsupported (.unsafePointer "a write to bytes that a string shares")) w else k.run P (w.setCell x v)
    |none=>match w.farStore P x v (m== .atomic) with
     | .ok (w,_)=>k.run P w
     | .error h=>.halt h w)=Result.ok a w'→w.drawn≤w'.drawn:=fun h=>by
    split at h
    ·split at h
     ·cases h
     ·have:=zcb k h
      exact this
    ·split at h
     ·rename_i hs
      have h2:=qjw hs
      have:=zcb k h
      simp only at h2
      omega
     ·cases h
   cases v<;>first|(cases h;done)|exact fin h
 | .new o k,w,w',a,h=>by
   simp only [Sem.run] at h
   have:=zcb (k _) h
   exact this
 | .shape r k,w,w',a,h=>by simp only [Sem.run] at h;exact zcb (k _) h
 | .freeze x n k,w,w',a,h=>by
   simp only [Sem.run] at h
   have:=zcb k h
   unfold World.freeze at this
   split at this<;>exact this
 | .frozen x k,w,w',a,h=>by simp only [Sem.run] at h;exact zcb (k _) h
 | .getObj r k,w,w',a,h=>by
   simp only [Sem.run] at h
   split at h
   ·cases h
   ·exact zcb (k _) h
   ·cases h
 | .setObj r o k,w,w',a,h=>by
   simp only [Sem.run] at h
   split at h
   ·cases h
   ·have:=zcb k h
    exact this
   ·cases h
 | .choose q k,w,w',a,h=>by
   simp only [Sem.run] at h
   split at h
   ·exact zcb (k _) h
   ·exact Nat.le_trans (Nat.le_succ _) (zcb (k _) h)
 | .sys c k,w,w',a,h=>by
   simp only [Sem.run] at h
   exact Nat.le_trans (yco w c) (zcb (k _) h)
 | .program k,w,w',a,h=>by simp only [Sem.run] at h;exact zcb (k _) h
 | .mark m k,w,w',a,h=>by simp only [Sem.run] at h;exact zcb k h
 | .halt e,w,w',a,h=>by cases h
theorem zut {w w':World} {row:Option Nat} (h:w.grownBy w' row) (hd:w.drawn≤w'.drawn):Kept (fun k=>row=some k) w w' :=
 ⟨h.os,h.tape,h.output,h.size,fun k hk hg=>h.block k hk fun e=>hg e.symm,hd⟩
theorem Kept.yjq {G G':Nat→Prop} {a b:World} (h:Kept G a b) (hG:∀x,x<a.heap.size→G x→G' x):Kept G' a b :=
 ⟨h.os,h.tape,h.output,h.size,fun k hk hn=>h.block k hk fun hg=>hn (hG k hk hg),h.drawn⟩
theorem qjr {F:Fence} {nF:Nat} {H:Type} {P:Program} (w:World) {ops:Array Oper} {rest:List Oper} {o:Oper} {a:Act} {Q:Exit→Act→World→Prop}
 (hg:o.guard=none) (m x v:Operand) (t:TypeId) (hop:o.op=Op.mapUpdate t m x v)
 (k e:TypeId) (K:Keyed P k) (ht:P.underlying t=some (.map k e)) (R:Value→Option (DataW H×List MemPlace)) (b n:Nat) (D:DataW H)
 (hm:a.eval m= .map (some b)) (hown:w.ownsMap P k R b n D) (hn:n<maxLen) (key val:Value) (kl:Lit) (hx:a.eval x=key) (hv:a.eval v=val) (hkey:keyOf P k key=some kl)
 (d:DataW H) (ps:List MemPlace) (hval:R val=some (d,ps))
 (hK:∀w',w'.ownsMap P k R b (n+1) (D.put kl d)→Kept (fun i=>i=b) w w'→wpListIn F nF P ops Q rest (a.put o.dst undef) w') :
 wpListIn F nF P ops Q (o::rest) a w:=by
 refine wpListIn_plain hg fun K' hK'=> ?_
 obtain ⟨w',hrun,r1,r2⟩:=hown.update K ht hn hkey hval
 unfold Oper.wpIn
 refine ⟨by simp [Oper.about,hop],?_⟩
 rw [Oper.semAt_plain F _ _ (by rw [hop];intro c hc';cases hc')]
 simp [execOp,hop,hm,hx,hv,hrun,Result.andThen]
 exact hK' _ _ (hK w' r1 ((zut r2 (zcb _ hrun)).yjq fun k _ h=>(Option.some.inj h).symm))
theorem qik {F:Fence} {n:Nat} {P:Program} (w:World) {ops:Array Oper} {rest:List Oper} {o:Oper} {a:Act} {Q:Exit→Act→World→Prop}
 (hg:o.guard=none) (s x:Operand) (t:TypeId) (hop:o.op=Op.call {callee:=Callee.builtin Builtin.append,args:= #[s,x],argTypes:= #[t,t]})
 (base:Nat) (e:TypeId) (i:TypeInfo) (z:Value) (size bytes:Nat) (h1:P.underlying t=some (.slice e)) (h2:P.info? e=some i) (h3:i.zero=some z) (h4:i.size=size) (h5:i.bytes=bytes) (h6:z.cells.size=size) (h7:0<size)
 (v:Value) (k:Nat) (xs:List Value) (hs:a.eval s=v) (hown:w.ownsRow base e size v k xs) (ad:Addr) (m c:Nat) (news:List Value) (hx:a.eval x= .slice (some ad) m c) (hn:news.length=m*size)
 (hc:∀j u,news[j]? =some u→w.cell? (ad.add j)=some u) (h1c:∀u∈news,u.oneCell'=true) (b1:k+m≤maxLen) (b2:(k+m)*bytes≤140737488355328) (b3:base≤w.heap.size)
 (hK:∀v' w',w'.ownsRow base e size v' (k+m) (xs++news)→Kept (fun i=>v.ownBlock=some i) w w'→(v'= .slice none 0 0↔v= .slice none 0 0∧m=0)→wpListIn F n P ops Q rest (a.put o.dst v') w') :
 wpListIn F n P ops Q (o::rest) a w:=by
 refine wpListIn_plain hg fun K hK'=> ?_
 obtain ⟨v',w',hrun,r1,r2,r3⟩:=run_append_own (P:=P) w base t o.type e i z size bytes h1 h2 h3 h4 h5 h6 h7 v k xs hown ad m c news hn hc h1c b1 b2 b3
 unfold Oper.wpIn
 refine ⟨?_,?_⟩
 ·simp [Oper.about,hop,resolve,Target.leads,Sem.run_pure]
 ·rw [Oper.semAt_plain F _ _ (by rw [hop];intro c hc';cases hc')]
  simp [execOp,hop,resolve,invoke,builtin,hs,hx,hrun,Result.andThen]
  exact hK' _ _ (hK v' w' r1 (zut r2 (zcb _ hrun)) r3)
theorem zme {w:World} {base:Nat} {e:TypeId} {size n:Nat} {g cap:Nat} {xs:List Value} (h:w.ownsRow base e size (.slice (some ⟨g,0,none⟩) n cap) n xs) (j:Nat) (u:Value) (hu:xs[j]? =some u):w.cell? ((⟨g,0,none⟩:Addr).add j)=some u:=by
 obtain ⟨_,h2⟩:=h
 rcases h2 with ⟨h0,_⟩|⟨g',cap',cur,hv,_,hh,_,_,_,ht⟩
 ·cases h0
 ·cases hv
  rw [←ht,List.getElem?_take] at hu
  split at hu
  ·rw [Array.getElem?_toList] at hu
   by_cases hj:j=0
   ·subst hj
    simp [World.cell?,Addr.add,hh,hu]
   ·simp [World.cell?,Addr.add,hj,hh,hu]
  ·cases hu
theorem qww {F:Fence} {n:Nat} {P:Program} (w:World) {ops:Array Oper} {rest:List Oper} {o:Oper} {a:Act} {Q:Exit→Act→World→Prop}
 (hg:o.guard=none) (s x:Operand) (t:TypeId) (hop:o.op=Op.call {callee:=Callee.builtin Builtin.append,args:= #[s,x],argTypes:= #[t,t]})
 (base:Nat) (e:TypeId) (i:TypeInfo) (z:Value) (size bytes:Nat) (h1:P.underlying t=some (.slice e)) (h2:P.info? e=some i) (h3:i.zero=some z) (h4:i.size=size) (h5:i.bytes=bytes) (h6:z.cells.size=size) (h7:0<size)
 (v:Value) (k:Nat) (xs:List Value) (hs:a.eval s=v) (hown:w.ownsRow base e size v k xs) (hk:0<k) (vx:Value) (m:Nat) (ys:List Value) (hx:a.eval x=vx) (howx:w.ownsRow base e size vx m ys)
 (h1c:∀u∈ys,u.oneCell'=true) (b1:k+m≤maxLen) (b2:(k+m)*bytes≤140737488355328) (b3:base≤w.heap.size)
 (hK:∀v' w',w'.ownsRow base e size v' (k+m) (xs++ys)→Kept (fun i=>v.ownBlock=some i) w w'→wpListIn F n P ops Q rest (a.put o.dst v') w') :
 wpListIn F n P ops Q (o::rest) a w:=by
 have hx':=howx
 obtain ⟨hl,h⟩:=howx
 rcases h with ⟨rfl,rfl⟩|⟨g,cap,cur,rfl,_⟩
 ·have:ys=[]:=List.eq_nil_of_length_eq_zero (by simpa using hl)
  subst this
  have hv:=hown
  obtain ⟨_,hv⟩:=hv
  rcases hv with ⟨_,h0⟩|⟨g,cap,cur,rfl,_,_,hc,_⟩
  ·omega
  ·refine wpListIn_plain hg fun K hK'=> ?_
   have hrun:=qii (P:=P) (t:=t) (ty:=o.type) h1 h2 (some ⟨g,0,none⟩) none k cap 0 hc w
   unfold Oper.wpIn
   refine ⟨?_,?_⟩
   ·simp [Oper.about,hop,resolve,Target.leads,Sem.run_pure]
   ·rw [Oper.semAt_plain F _ _ (by rw [hop];intro c hc';cases hc')]
    simp [execOp,hop,resolve,invoke,builtin,hs,hx,hrun,Result.andThen]
    exact hK' _ _ (hK _ w (by simpa using hown) (Kept.refl _ w))
 ·exact qik w hg s x t hop base e i z size bytes h1 h2 h3 h4 h5 h6 h7 v k xs hs hown ⟨g,0,none⟩ m cap ys hx hl (fun j u hu=>zme hx' j u hu) h1c b1 b2 b3 fun v' w' r1 r2 _=>hK v' w' r1 r2
theorem ownsRow_lit {w:World} {base:Nat} {e:TypeId} {cs:Array Value} (hb:base≤w.heap.size) (hm:0<cs.size):(w.alloc (.cells cs e)).ownsRow base e cs.size (.slice (some ⟨w.heap.size,0,none⟩) 1 1) 1 cs.toList :=
 ⟨by simp,.inr ⟨w.heap.size,1,cs,rfl,hb,zgr w _,Nat.le_refl _,by decide,by simp,by rw [Nat.one_mul,←Array.length_toList,List.take_length]⟩⟩
theorem zex {w w':World} {base:Nat} {e:TypeId} {size:Nat} {v:Value} {n:Nat} {xs:List Value} {G:Nat→Prop} (h:w.ownsRow base e size v n xs) (hk:Kept G w w') (hG:∀g,v.ownBlock=some g→¬G g):w'.ownsRow base e size v n xs:=by
 obtain ⟨h1,h2⟩:=h
 refine ⟨h1,?_⟩
 rcases h2 with h2|⟨g,cap,cur,rfl,hb,hh,hr⟩
 ·exact .inl h2
 ·exact .inr ⟨g,cap,cur,rfl,hb,(hk.block g (Array.getElem?_eq_some_iff.1 hh).1 (hG g rfl)).trans hh,hr⟩
end Go.Sv
namespace Go.Sv
open Go
theorem zid {w:World} {r:Nat} {o:Obj}:Kept (fun k=>k=r) w (w.putObj r o) :=
 ⟨rfl,rfl,rfl,by simp,fun k _ hk=>World.putObj_heap_other hk,Nat.le_refl _⟩
theorem kept_alloc (w:World) (o:Obj):Kept (fun _=>False) w (w.alloc o):=(Kept.refl _ w).alloc o
theorem Kept.weak {G G':Nat→Prop} {a b:World} (h:Kept G a b) (hG:∀x,x<a.heap.size→G x→G' x):Kept G' a b :=
 ⟨h.os,h.tape,h.output,h.size,fun k hk hn=>h.block k hk fun hg=>hn (hG k hk hg),h.drawn⟩
theorem yel {P:Program} {n:Nat} {α:Type} {g:Operand} {ps:Array Tmp} {assign body:Code} {Q:Exit→Act→World→Prop} {a:Act} {w:World}
 {gf:Nat} {lb:Array Value} (hg:a.eval g= .func (.func gf) #[] lb) (eg:∀args w,(callFunc gf args).run P w= .ok (.enter gf args) w)
 {encs:α→Array Value} (hps:∀x,(encs x).size=ps.size) {Ok Fin:List α→Prop} {M:Nat→Prop} (hM:∀b,M b→b<w.heap.size)
 (I:List α→World→Prop) (hI:∀pre W W',I pre W→Kept (fun k=>w.heap.size≤k) W W'→I pre W') (h0:I [] w)
 (hseq:∀(l:Nat) (J:List α→World→Prop) (W:World),Kept (fun _=>False) w W→w.heap.size≤l→l<W.heap.size→
  (∀pre A B,J pre A→Kept (fun k=>W.heap.size≤k) A B→J pre B)→
  (∀pre x W1,J pre W1→Ok (pre++[x])→W.heap.size≤W1.heap.size→YieldAt Fence.wide n P l (encs x) W1 fun e W'=>e= .returned (.bool true)∧J (pre++[x]) W'∧Kept (fun k=>M k∨k=l) W1 W')→
  J [] W→CallsIn Fence.wide n P gf (#[.func (.yield l) #[] #[]]++lb) W fun e W'=>(∃v,e= .returned v)∧∃xs,Fin xs∧J xs W')
 (hround:∀(l:Nat) (pre:List α) (x:α) (W:World),w.heap.size≤l→l<W.heap.size→I pre W→Ok (pre++[x])→
  assign.wpIn (Fence.wide.inRound l) n P (Exit.then (fun a' W'=>Kept (fun _=>False) W W'∧∀W2,Kept (fun k=>k=l) W' W2→
   body.wpIn (Fence.wide.inRound l) n P (fun e _ W3=>e= .normal∧Kept M W2 W3∧I (pre++[x]) W3) a' W2) (fun _ _ _=>False))
   {tmps:=(ps.zip (encs x)).foldl (fun t (p,v)=>t.setIfInBounds p v) a.tmps,defers:=[]} W)
 (hdone:∀(D:Nat) (xs:List α) (W:World),w.heap.size≤D→Fin xs→I xs W→W.heap[D]? =some (.deferred (some []))→Kept M w W→Q .normal {a with defers:={target:=.collected D,args:= #[]}::a.defers} W) :
 (Code.rangeFunc g ps assign body).wpIn Fence.wide (n+1) P Q a w:=by
 refine wpIn_rangeFunc fun fn hfn=> ?_
 have hro:Fence.wide.round=none:=rfl
 rw [hro]
 let rec':LoopState→Option Code→Loop:=fun st pe=>{state:=st,pending:=pe,fn,tmps:=a.tmps,params:=ps,assign,body,defers:=w.heap.size}
 obtain ⟨W1,hW1⟩:∃W1,(w.alloc (.deferred (some []))).alloc (.loop (rec' .ready none))=W1:=⟨_,rfl⟩
 have hk1:Kept (fun _=>False) w W1:=by rw [←hW1];exact (kept_alloc w _).alloc _
 have hs1:W1.heap.size=w.heap.size+2:=by rw [←hW1];simp
 have hL1:W1.heap[w.heap.size+1]? =some (.loop (rec' .ready none)):=by
  rw [←hW1]
  have:=World.alloc_heap_new (w.alloc (.deferred (some []))) (.loop (rec' .ready none))
  rwa [World.size_alloc] at this
 have hD1:W1.heap[w.heap.size]? =some (.deferred (some [])):=by
  rw [←hW1]
  exact (zat _ _ _ (by simp)).trans (zgr w _)
 have hI1:I [] W1:=hI [] w W1 h0 (hk1.weak fun _ _ h=>h.elim)
 have hleads:∀f',Target.leads P W1 (Target.fn (.func gf) lb) #[.func (.yield (w.heap.size+1)) #[] #[]]=some f'→Fence.wide.fn f':=fun f' _=>trivial
 refine ⟨w.heap.size+1,[{target:=.collected w.heap.size,args:= #[]}],W1,{target:=.fn (.func gf) lb,args:= #[.func (.yield (w.heap.size+1)) #[] #[]]},W1,gf,
  #[.func (.yield (w.heap.size+1)) #[] #[]]++lb,W1,?_,?_,hleads,?_,fun _=>by omega,?_⟩
 ·rw [←hW1];exact run_enterLoop_outer _ _ _ _ _
 ·simp only [resolve,hg]
  simp [go_sem]
 ·simp [invoke,go_sem,eg]
 ·let J:List α→World→Prop:=fun pre W=>I pre W∧W.heap[w.heap.size+1]? =some (.loop (rec' .ready none))∧W.heap[w.heap.size]? =some (.deferred (some []))∧Kept (fun k=>M k∨w.heap.size≤k) w W
  have hJs:∀pre A B,J pre A→Kept (fun k=>W1.heap.size≤k) A B→J pre B:=fun pre A B ⟨j1,j2,j3,j4⟩ hk=>by
   have l2:w.heap.size+1<A.heap.size:=(Array.getElem?_eq_some_iff.1 j2).1
   exact ⟨hI pre A B j1 (hk.weak fun k _ h=>by omega),(hk.block _ l2 (by omega)).trans j2,(hk.block _ (by omega) (by omega)).trans j3,j4.trans hk fun k h=>.inl (.inr (by omega))⟩
  have hend:=hseq (w.heap.size+1) J W1 hk1 (by omega) (by omega) hJs ?_ ⟨hI1,hL1,hD1,hk1.weak fun _ _ h=>h.elim⟩
  ·refine (show n+1-1=n from rfl)▸hend.mono ?_
   rintro e W2 ⟨⟨v,rfl⟩,xs,hfin,j1,j2,j3,j4⟩
   refine ⟨none,_,run_endLoop j2 (by simp [rec']),?_⟩
   refine hdone w.heap.size xs _ (Nat.le_refl _) hfin (hI xs W2 _ j1 (zid.weak fun k _ h=>by omega)) ((World.putObj_heap_other (by omega)).trans j3) ?_
   exact (j4.trans zid fun k h=>.inl (.inr (by omega))).weak fun k hk h=>h.elim id fun h=>by omega
  ·rintro pre x W ⟨j1,j2,j3,j4⟩ hpre hsz
   have hlt:w.heap.size+1<W.heap.size:=(Array.getElem?_eq_some_iff.1 j2).1
   have hy:=run_yield (P:=P) (args:=encs x) j2 (hps x)
   refine ⟨fn,_,assign,body,hy,roundIn_of_wpIn (F:=Fence.wide) trivial (wpIn_mono (hround (w.heap.size+1) pre x W (by omega) hlt j1 hpre) ?_)⟩
   intro e a' Wa hq
   cases e with
   |normal =>
    obtain ⟨hka,hb⟩:=hq
    have l2:Wa.heap[w.heap.size+1]? =some (.loop (rec' .ready none)):=(hka.block _ hlt fun h=>h).trans j2
    have l3:Wa.heap[w.heap.size]? =some (.deferred (some [])):=(hka.block _ (by omega) fun h=>h).trans j3
    have hlta:w.heap.size+1<Wa.heap.size:=(Array.getElem?_eq_some_iff.1 l2).1
    refine ⟨_,run_beginRound l2 rfl,wpIn_mono (hb _ zid) ?_⟩
    rintro e3 a3 W3 ⟨rfl,hk3,hi3⟩
    have hMn:∀k,w.heap.size≤k→¬M k:=fun k hk hm=>by have:=hM k hm;omega
    have m2:W3.heap[w.heap.size+1]? =some (.loop {rec' .ready none with state:=.busy}):=(hk3.block _ (by simpa using hlta) (hMn _ (by omega))).trans (World.putObj_heap_same hlta)
    have m3:W3.heap[w.heap.size]? =some (.deferred (some [])):=(hk3.block _ (by simp;omega) (hMn _ (by omega))).trans ((World.putObj_heap_other (by omega)).trans l3)
    have hlt3:w.heap.size+1<W3.heap.size:=(Array.getElem?_eq_some_iff.1 m2).1
    have hkk:Kept (fun k=>M k∨k=w.heap.size+1) W (W3.putObj (w.heap.size+1) (.loop {rec' .ready none with state:=.ready,pending:=none})) :=
     (((hka.weak (G':=fun k=>M k∨k=w.heap.size+1) fun _ _ h=>h.elim).trans zid fun k h=>.inl (.inr h)).trans hk3 fun k h=>.inl (.inl h)).trans zid fun k h=>.inl (.inr h)
    refine ⟨_,_,run_endRound none m2,rfl,⟨hI _ W3 _ hi3 (zid.weak fun k _ h=>by omega),World.putObj_heap_same hlt3,(World.putObj_heap_other (by omega)).trans m3,?_⟩,hkk⟩
    exact j4.trans hkk fun k h=>.inl (h.imp id fun h=>by omega)
   |exit id=>exact hq.elim
   |goto t=>exact hq.elim
   |ret=>exact hq.elim
   |panic ch=>exact hq.elim
   |outgrown=>exact hq.elim
end Go.Sv
