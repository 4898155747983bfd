/- slices.Reverse in its place, at whole numbers. -/
import Derived.Test.YtjolkdjkhekbnaaGreatDoorEv7
import Derived.Shelf.SlicesE.Reverse
import Derived.Maps.OwnIn
import Derived.RangeFuncSeq
set_option linter.unusedVariables false
set_option linter.unusedSimpArgs false
namespace Go.Sv
open Go Go.Sort Go.Proofs Go.Shelf Go.RowKit Go.Lib
theorem yjs {P:Program} {ρ:Ren} (L:SlLaysE.n35 P ρ) {e:TypeId} (hcall:zbc P (ρ.f 35)):yop P (ρ.f 35) e (.int .i64):=by
 refine ⟨hcall,fun a cap w=>AnyE.slices_Reverse_empty L a cap w,fun {F w xs g l v} hne hown hF=> ?_⟩;obtain ⟨hl,cap,cur,rfl,hh,hcap,hcm,hcs,hel⟩:=hown;have hcs':cur.size=cap:=by simpa [Ty.sz] using hcs
 have hel':∀(i:Nat) (x:Int),xs[i]? =some x→cur[i]? =some (.int .i64 x):=fun i x hx=>by
  obtain ⟨ds,h1,h2⟩:=hel i x hx;rw [Cl] at h1;subst h1
  simpa [Ty.sz] using h2 0 _ rfl
 have hH:Holds (fun n:Int=>Value.int .i64 n) w g 0 (List.toArray (α:=Int) xs):=by
  intro j hj;have hj':j<xs.length:=by simpa using hj
  refine ⟨?_,?_⟩
  ·have:=hel' j xs[j] (List.getElem?_eq_getElem hj');simp only [World.cell?,hh,Nat.zero_add];rw [getElem!_pos (List.toArray (α:=Int) xs) j hj]
   simpa using this
  ·simp [World.frozen?,hh]
 refine (AnyE.slices_Reverse L (fun n:Int=>Value.int .i64 n) (fun _=>rfl) g 0 cap xs w hH (by unfold maxLen at hcm;omega)).mono fun en w' ⟨he,n,hw⟩=> ?_
 have hw':w'=sw w g n (putCells (fun n:Int=>Value.int .i64 n) 0 (List.toArray (α:=Int) xs.reverse)) #[]:=by rw [hw];unfold sw;rw [grow_empty];rfl
 rw [hw'];refine ⟨he,qqb ..,by simp [hl],cap,_,by simp,qqc hh,by simpa using hcap,hcm,?_,fun i x hx=>⟨[.int .i64 x],by rw [Cl],fun j u hj=> ?_⟩⟩
 ·simp [putCells,hcs]
 ·have hj0:j=0:=by
   have:=(List.getElem?_eq_some_iff.1 hj).1
   simpa using this
  subst hj0;cases hj;obtain ⟨hi,hx⟩:=List.getElem?_eq_some_iff.1 hx;rw [List.length_reverse] at hi;have hc:i<cur.size:=by omega
  simp only [Ty.sz,Nat.mul_one,Nat.add_zero,putCells,Array.getElem?_mapIdx,Array.getElem?_eq_getElem hc,Option.map_some,Nat.zero_add,Nat.sub_zero,List.size_toArray,List.length_reverse];rw [if_pos ⟨Nat.zero_le _,hi⟩];have hi':i<(List.toArray (α:=Int) xs.reverse).size:=by simpa using hi
  rw [getElem!_pos (List.toArray (α:=Int) xs.reverse) i hi'];simp only [List.getElem_toArray,hx]
open Go
def yxw:List SV→Prop:=fun l=>∀s∈l,∃e t xs,s= .one (.slice e t xs .no)
def qyq (F:Nat→Prop) (w:World) (e:TypeId) (u:Ty) (xs:List u.den) (bo:Nat) (so:Value):Option (Nat×Nat)→Prop
 |none=>xs=[]∧∃a,so= .slice a 0 0
 |some (go,l)=>go≠bo∧OwnAt F w e u xs go l so
structure xfp (P:Program) (E:Env) (f:Nat) (tid e:TypeId) (u:Ty) (H:List SV→List u.den→Option (List u.den)):Prop where
 call:zbc P f
 plain:∀args xs ys,H args xs=some ys→yxw args
 runs:∀(args:List SV) (xs ys:List u.den),H args xs=some ys→∀(w:World) (F:Nat→Prop) (bo br:Nat) (so:Value) (vs:List Value) (own:Option (Nat×Nat)),
  (∀b,F b→b<w.heap.size)→F bo→(∀go l,own=some (go,l)→F go)→w.heap[bo]? =some (.cells #[so] tid (0,0))→qyq F w e u xs bo so own→¬F br→w.cell? ⟨br,0,none⟩=some (zhh f bo br)→zfe E F w→
  All2 (RS F Fr.none w) args vs→
  Calls P f (vs++([.pointer (some ⟨bo,0,none⟩),.pointer (some ⟨br,0,none⟩)]:List Value)).toArray w fun en w'=>en= .returned (.tuple #[])∧Kept (fun k=>k=bo∨∃l,own=some (k,l)) w w'∧
   ∃so' own',w'.heap[bo]? =some (.cells #[so'] tid (0,0))∧qyq (fun b=>(F b∧∀l,own≠some (b,l))∨∃l,own'=some (b,l)) w' e u ys bo so' own'∧
    ∀go l,own'=some (go,l)→go<w'.heap.size∧((∃l0,own=some (go,l0))∨w.heap.size≤go)
theorem xhk {P:Program} {E:Env} {f:Nat} {tid e:TypeId} {u:Ty} {H:List SV→List u.den→Option (List u.den)} (hS:xfp P E f tid e u H)
 (hpin:∀v t' e' args u' xs ys,E.pinF v t' e' args u' xs=some ys→v=f∧t'=tid∧e'=e∧∃h:u'=u,H args (h▸xs)=some (h▸ys)):yil P E:=by
 intro X hP hE o c fo σ σ' br v args hd ho hc hf hargs hk;subst hP;subst hE;unfold pinK at hk;split at hk
 ·rename_i tid' e' u' xs n d hb hdst;simp only [Option.bind_eq_some_iff,Option.some.injEq] at hk;obtain ⟨ys,hys,rfl⟩:=hk;obtain ⟨rfl,rfl,rfl,rfl,hH⟩:=hpin _ _ _ _ _ _ _ hys;intro A a w hi hdef next Q hn
  obtain ⟨bo,vs0,hbx,hheap,hrc⟩:=hi.box 3 _ _ hb;obtain ⟨so,rfl,hso⟩:∃so,vs0= #[so]∧RC (X.F A) A w (.slice e' u' xs (.own n)) so:=by
   generalize hl:vs0.toList=l at hrc;cases hrc with
   |cons h0 ht=>cases ht;exact ⟨_,Array.toList_inj.1 hl,h0⟩
  have hpv:=zah hi fo;rw [hf] at hpv;obtain ⟨bo',hbx',hfe,hFbr,hcell⟩:∃bo',A.bx 3=some bo'∧a.eval fo=zhh v bo' br∧¬X.F A br∧w.cell? ⟨br,0,none⟩=some (zhh v bo' br):=hpv;rw [hbx] at hbx';cases hbx';have hF:∀b,X.F A b→b<w.heap.size:=fun k hk=>by
   rcases hk with hk|⟨d,hk⟩|⟨n,l,hk⟩
   ·exact Nat.lt_of_lt_of_le (hi.good.f0 k hk).1 hi.kept.size
   ·exact (hi.good.bxm d k hk).2
   ·exact (hi.good.tgm n k l hk).2
  have hplain:=hS.plain _ _ _ hH;have hvs:All2 (RS (X.F A) Fr.none w) (zfv X.E c.argTypes.toList args) (c.args.toList.map a.eval):=by
   refine zhn (zlx hi (zzq hi hargs)) fun s v hs hr=> ?_
   obtain ⟨e1,t1,xs1,rfl⟩:=hplain s hs;exact hr
  have hrow:qyq (X.F A) w e' u' xs bo so (A.tg n):=by
   rcases hso with ⟨h1,h2,h3⟩|⟨go,l,h1,h2⟩
   ·rw [h1];exact ⟨h2,h3⟩
   ·rw [h1];exact ⟨fun e=>hi.good.bt 3 n bo l hbx (e▸h1),h2⟩
  unfold Oper.wp;rw [qgy (vs:=c.args.toList.map a.eval) (ws:=[.pointer (some ⟨bo,0,none⟩),.pointer (some ⟨br,0,none⟩)]) ho hc hfe rfl hS.call,Oper.upon_enter];refine (hS.runs _ _ _ hH w (X.F A) bo br so _ (A.tg n) hF (.inr (.inl ⟨3,hbx⟩)) (fun go l h=>.inr (.inr ⟨n,l,h⟩)) hheap hrow hFbr hcell hi.glob hvs).mono fun en w' ⟨he,hkept,so',own',hheap',hrow',hown'⟩=> ?_
  subst he;show next (a.put o.dst (.tuple #[])) w'
  let A':Fr:=⟨A.bx,fun m=>if m=192 then own' else if m=n then none else A.tg m⟩
  have htg:∀m b l,A'.tg m=some (b,l)→(m=192∧own'=some (b,l))∨(m≠192∧m≠n∧A.tg m=some (b,l)):=fun m b l h=>by
   simp only [A'] at h;split at h
   ·exact .inl ⟨‹_›,h⟩
   ·split at h
    ·cases h
    ·exact .inr ⟨‹_›,‹_›,h⟩
  have hFown:∀b l,own'=some (b,l)→X.F A b∨w.heap.size≤b:=fun b l h=>by
   rcases (hown' b l h).2 with ⟨l0,h1⟩|h1
   ·exact .inl (.inr (.inr ⟨n,l0,h1⟩))
   ·exact .inr h1
  have hold:∀k,k<w.heap.size→k≠bo→(∀l,A.tg n≠some (k,l))→w'.heap[k]? =w.heap[k]? :=fun k hlt h1 h2=>hkept.block k hlt fun h=>by
   rcases h with h|⟨l,h⟩
   ·exact h1 h
   ·exact h2 l h
  have S:Step (X.F A) (X.F A') w w':=⟨fun k hk hlt=>hold k hlt (fun e=>hk (e▸.inr (.inl ⟨3,hbx⟩))) fun l hl=>hk (.inr (.inr ⟨n,l,hl⟩)),fun k hk=>by
   rcases hk with hk|⟨d,hk⟩|⟨m,l,hk⟩
   ·exact .inl (.inl hk)
   ·exact .inl (.inr (.inl ⟨d,hk⟩))
   ·rcases htg m k l hk with ⟨_,h⟩|⟨_,_,h⟩
    ·exact hFown k l h
    ·exact .inl (.inr (.inr ⟨m,l,h⟩))⟩
  have hk':Kept X.G X.W w':=hi.kept.trans hkept fun k hk=>by
   rcases hk with rfl|⟨l,hk⟩
   ·exact (hi.good.bxm 3 _ hbx).1.symm
   ·exact (hi.good.tgm n k l hk).1.symm
  have hgood:Good X A' w':=by
   refine ⟨fun d b h=>⟨(hi.good.bxm d b h).1,Nat.lt_of_lt_of_le (hi.good.bxm d b h).2 hkept.size⟩,fun m b l h=> ?_,hi.good.bxi,fun m m' b l l' h h'=> ?_,fun d m b l h h'=> ?_,hi.good.f0⟩
   ·rcases htg m b l h with ⟨_,h⟩|⟨_,_,h⟩
    ·refine ⟨?_,(hown' b l h).1⟩;rcases (hown' b l h).2 with ⟨l0,h1⟩|h1
     ·exact (hi.good.tgm n b l0 h1).1
     ·exact .inl (Nat.le_trans hi.kept.size h1)
    ·exact ⟨(hi.good.tgm m b l h).1,Nat.lt_of_lt_of_le (hi.good.tgm m b l h).2 hkept.size⟩
   ·rcases htg m b l h with ⟨e1,h1⟩|⟨e1,e2,h1⟩<;>rcases htg m' b l' h' with ⟨e3,h3⟩|⟨e3,e4,h3⟩
    ·rw [e1,e3]
    ·rcases (hown' b l h1).2 with ⟨l0,h5⟩|h5
     ·exact absurd (hi.good.tgi m' n b l' l0 h3 h5) e4
     ·have:=(hi.good.tgm m' b l' h3).2;omega
    ·rcases (hown' b l' h3).2 with ⟨l0,h5⟩|h5
     ·exact absurd (hi.good.tgi m n b l l0 h1 h5) e2
     ·have:=(hi.good.tgm m b l h1).2;omega
    ·exact hi.good.tgi m m' b l l' h1 h3
   ·rcases htg m b l h' with ⟨e1,h1⟩|⟨e1,e2,h1⟩
    ·rcases (hown' b l h1).2 with ⟨l0,h5⟩|h5
     ·exact hi.good.bt d n b l0 h h5
     ·have:=(hi.good.bxm d b h).2;omega
    ·exact hi.good.bt d m b l h h1
  have hmap:∀c v,RC (X.F A) A w c v→RC (X.F A') A' w' (PC.zcs (fun m=>bif mem [n,192] m then some false else none) c) v:=fun c v hc=>by
   cases c with
   |slice e1 t1 xs1 q=>
    cases q with
    |own m=>
     unfold PC.zcs;by_cases hm:m∈[n,192]
     ·simp only [mem_iff.2 hm,cond_true];exact RC.one hc
     ·simp only [zmi hm,cond_false];have hm1:m≠n:=fun e=>hm (by simp [e])
      have hm2:m≠192:=fun e=>hm (by simp [e])
      have e1:A'.tg m=A.tg m:=by simp [A',hm1,hm2]
      exact RC.step S ⟨fun h=>e1.trans h,fun b l h=>⟨e1.trans h,hold b (hi.good.tgm m b l h).2 (fun e=>hi.good.bt 3 m bo l hbx (e▸h)) fun l' h'=>hm1 (hi.good.tgi m n b l l' h h')⟩⟩ hc
    |_=>exact RC.step S trivial hc
   |elemT u1 m i o=>
    unfold PC.zcs;by_cases hm:m∈[n,192]
    ·simp only [mem_iff.2 hm,cond_true];exact RC.one hc
    ·simp only [zmi hm,cond_false];have hm1:m≠n:=fun e=>hm (by simp [e])
     have hm2:m≠192:=fun e=>hm (by simp [e])
     have e1:A'.tg m=A.tg m:=by simp [A',hm1,hm2]
     exact RC.step S (fun b l h=>e1.trans h) hc
   |box d o=>exact RC.step S (fun _ h=>h) hc
   |pin _ _=>exact RC.step S (fun _ h=>h) hc
   |pinp _ _=>exact RC.step S (fun _ h=>h) hc
   |_=>exact RC.step S trivial hc
  have hi1:Inv X A {s:=σ.s,b:=delB σ.b 3} a.tmps w:=⟨hi.sz,hi.kept,hi.glob,hi.slot,fun d' tid1 cs hd'=>by
   rw [zqj] at hd';split at hd'
   ·cases hd'
   ·exact hi.box d' tid1 cs hd',hi.good,hi.ent⟩
  have hi2:=hi1.map hmap hk' S hgood fun d' tid1 cs b vs1 hd' hb' hw'=>by
   have hd3:d'≠3:=fun e=>by rw [e,zqj] at hd';simp at hd'
   exact ⟨hb',(hold b (hi.good.bxm d' b hb').2 (fun e=>hd3 (hi.good.bxi d' 3 b hb' (e▸hbx))) fun l hl=>hi.good.bt d' n b l hb' hl).trans hw'⟩
  have hso':RC (X.F A') A' w' (.slice e' u' ys (.own 192)) so':=by
   cases ho':own' with
   |none=>rw [ho'] at hrow';exact .inl ⟨by simp [A',ho'],hrow'.1,hrow'.2⟩
   |some q=>
    obtain ⟨go,l⟩:=q;rw [ho'] at hrow';refine .inr ⟨go,l,by simp [A',ho'],hrow'.2.step ⟨fun _ _ _=>rfl,fun b hb=>.inl ?_⟩ rfl⟩;rcases hb with hb|⟨d',hb⟩|⟨m,l1,hb⟩
    ·exact .inl ⟨.inl hb,fun l2 h2=>hi.good.f0m (hi.good.tgm n b l2 h2).1 hb⟩
    ·exact .inl ⟨.inr (.inl ⟨d',hb⟩),fun l2 h2=>hi.good.bt d' n b l2 hb h2⟩
    ·rcases htg m b l1 hb with ⟨_,h1⟩|⟨_,e2,h1⟩
     ·exact .inr ⟨l1,by rw [ho'] at h1;exact h1⟩
     ·exact .inl ⟨.inr (.inr ⟨m,l1,h1⟩),fun l2 h2=>e2 (hi.good.tgi m n b l1 l2 h1 h2)⟩
  have hkill:σ.kill [n,192]=σ.map (PC.zcs fun m=>bif mem [n,192] m then some false else none):=rfl;have hi3:Inv X A' {s:=(σ.kill [n,192]).s,b:=(3,(tid',[.slice e' u' ys (.own 192)]))::delB (σ.kill [n,192]).b 3} a.tmps w':=by
   refine ⟨hi2.sz,hi2.kept,hi2.glob,hi2.slot,fun d' tid1 cs hd'=> ?_,hi2.good,hi2.ent⟩;simp only [getB] at hd';cases hb3:Nat.beq 3 d' with
   |true=>have:=Nat.eq_of_beq_eq_true hb3;subst this;simp only [hb3,cond_true,Option.some.injEq,Prod.mk.injEq] at hd';obtain ⟨rfl,rfl⟩:=hd';exact ⟨bo,#[so'],hbx,hheap',.cons hso' .nil⟩
   |false=>
    have hne:d'≠3:=fun e=>by rw [e] at hb3;cases hb3
    simp only [hb3,cond_false,zqj,if_neg hne] at hd';refine hi2.box d' tid1 cs ?_;rw [hkill] at hd';simp only [St.map,qpg,zqj,if_neg hne] at hd' ⊢;exact hd'
  refine hn A' _ w' ?_ (by rw [put_defers];exact hdef);rw [hdst];exact hi3.put (fun d1 h1=>hd d1 (by rw [hdst];exact h1)) fun _=>trivial
 ·cases hk
def yie (tid e:TypeId) (u:Ty) (ex:Ex) (σ:St):Option (Nat×Nat×List u.den):=
 if ex= .normal then (match getB σ.b 3,σ.get 4 with
  |some (t,[.slice e' u' ys (.own n)]),.sv (.one (.pinp br _))=>(if h:t=tid∧e'=e∧u'=u then some (br,n,h.2.2▸ys) else none)
  |_,_=>none) else none
theorem yma {tid e:TypeId} {u:Ty} {ex:Ex} {σ:St} {br n:Nat} {ys:List u.den} (h:yie tid e u ex σ=some (br,n,ys)):ex= .normal∧getB σ.b 3=some (tid,[.slice e u ys (.own n)])∧∃f,σ.get 4= .sv (.one (.pinp br f)):=by
 unfold yie at h;split at h
 ·rename_i hx;refine ⟨hx,?_⟩;split at h
  ·rename_i t e' u' ys' n' br' f' hg h4;split at h
   ·rename_i hq;obtain ⟨rfl,rfl,rfl⟩:=hq;cases h;exact ⟨hg,f',h4⟩
   ·cases h
  ·cases h
 ·cases h
def qre (e1:TypeId) (t1:Ty) (D p q:List t1.den) (tid e:TypeId) (u:Ty) (xs:List u.den) (br f:Nat):St:=
 ⟨[(0,.sv (.one (.slice e1 t1 D .no))),(1,.sv (.one (.slice e1 t1 p .no))),(2,.sv (.one (.slice e1 t1 q .no))),(3,.sv (.one (.box 3 0))),(4,.sv (.one (.pinp br f)))],[(3,(tid,[.slice e u xs (.own 192)]))]⟩
theorem ypk {P:Program} {E:Env} {run:Runs E} (hT:qel P E) (hR:qaq P E run) {f k:Nat} {fn:Func} {body:Code} (hf:P.funcs[f]? =some fn) (hb:fn.body=some body) (hds:zla fn.ntmps body=true) (hres:fn.results= #[])
 {tid e e1:TypeId} {u t1:Ty} {D p q:List t1.den} {xs ys:List u.den} {tag:Nat}
 (hev:∀br,zft E run k f body 0 none (qre e1 t1 D p q tid e u xs br f) (yie tid e u)=some (br,tag,ys)):
 ∀(w:World) (F:Nat→Prop) (bo br:Nat) (so:Value) (vs:List Value) (own:Option (Nat×Nat)),
  (∀b,F b→b<w.heap.size)→F bo→(∀go l,own=some (go,l)→F go)→w.heap[bo]? =some (.cells #[so] tid (0,0))→qyq F w e u xs bo so own→¬F br→w.cell? ⟨br,0,none⟩=some (zhh f bo br)→zfe E F w→
  All2 (RS F Fr.none w) [.one (.slice e1 t1 D .no),.one (.slice e1 t1 p .no),.one (.slice e1 t1 q .no)] vs→
  Calls P f (vs++([.pointer (some ⟨bo,0,none⟩),.pointer (some ⟨br,0,none⟩)]:List Value)).toArray w fun en w'=>en= .returned (.tuple #[])∧Kept (fun k=>k=bo∨∃l,own=some (k,l)) w w'∧
   ∃so' own',w'.heap[bo]? =some (.cells #[so'] tid (0,0))∧qyq (fun b=>(F b∧∀l,own≠some (b,l))∨∃l,own'=some (b,l)) w' e u ys bo so' own'∧
    ∀go l,own'=some (go,l)→go<w'.heap.size∧((∃l0,own=some (go,l0))∨w.heap.size≤go):=by
 intro w F bo br so vs own hF hbo hown hheap hrow hbr hcell hglob hvs;obtain ⟨v0,v1,v2,rfl,h0,h1,h2⟩:∃v0 v1 v2,vs=[v0,v1,v2]∧Cl F w (.slice e1 t1) D [v0]∧Cl F w (.slice e1 t1) p [v1]∧Cl F w (.slice e1 t1) q [v2]:=by
  cases hvs with
  |cons a hvs=>cases hvs with
   |cons b hvs=>cases hvs with
    |cons c hvs=>cases hvs;exact ⟨_,_,_,rfl,a,b,c⟩
 let args:Array Value:=([v0,v1,v2]++([.pointer (some ⟨bo,0,none⟩),.pointer (some ⟨br,0,none⟩)]:List Value)).toArray
 let X:Ctx:={P:=P,E:=E,W:=w,G:=fun k=>k=bo∨∃l,own=some (k,l),F0:=fun b=>F b∧b≠bo∧∀l,own≠some (b,l),n:=(args++Array.replicate (fn.ntmps-args.size) undef).size}
 let A:Fr:=⟨fun d=>if d=3 then some bo else none,fun m=>if m=192 then own else none⟩
 have hA3:A.bx 3=some bo:=by simp [A]
 have hbx:∀d b,A.bx d=some b→d=3∧b=bo:=fun d b h=>by
  simp only [A] at h;split at h
  ·cases h;exact ⟨‹_›,rfl⟩
  ·cases h
 have htg:∀m b l,A.tg m=some (b,l)→m=192∧own=some (b,l):=fun m b l h=>by
  simp only [A] at h;split at h
  ·exact ⟨‹_›,h⟩
  ·cases h
 have hXF:∀b,X.F A b→F b:=fun b hb=>by
  rcases hb with hb|⟨d,hb⟩|⟨m,l,hb⟩
  ·exact hb.1
  ·obtain ⟨_,rfl⟩:=hbx d b hb;exact hbo
  ·exact hown b l (htg m b l hb).2
 have hFX:∀b,F b→X.F A b:=fun b hb=>by
  by_cases h1:b=bo
  ·exact .inr (.inl ⟨3,by rw [h1];exact hA3⟩)
  ·by_cases h2:∃l,own=some (b,l)
   ·obtain ⟨l,h2⟩:=h2;exact .inr (.inr ⟨192,l,by simp [A,h2]⟩)
   ·exact .inl ⟨hb,h1,fun l hl=>h2 ⟨l,hl⟩⟩
 have S:Step F (X.F A) w w:=⟨fun _ _ _=>rfl,fun b hb=>.inl (hXF b hb)⟩;have hne:∀go l,own=some (go,l)→go≠bo:=fun go l h=>by rw [h] at hrow;exact hrow.1
 have hso:RC (X.F A) A w (.slice e u xs (.own 192)) so:=by
  cases ho:own with
  |none=>rw [ho] at hrow;exact .inl ⟨by simp [A,ho],hrow.1,hrow.2⟩
  |some z=>obtain ⟨go,l⟩:=z;rw [ho] at hrow;exact .inr ⟨go,l,by simp [A,ho],hrow.2.step S rfl⟩
 have hgetD:∀i,(args++Array.replicate (fn.ntmps-args.size) undef).getD i undef=match i with|0=>v0|1=>v1|2=>v2|3=>.pointer (some ⟨bo,0,none⟩)|4=>.pointer (some ⟨br,0,none⟩)|_=>(args++Array.replicate (fn.ntmps-args.size) undef).getD i undef:=fun i=>by
  match i with
  |0=>simp [args,Array.getElem?_append]|1=>simp [args,Array.getElem?_append]|2=>simp [args,Array.getElem?_append]|3=>simp [args,Array.getElem?_append]|4=>simp [args,Array.getElem?_append]|i+5=>rfl
 have hslot:∀i,RP (X.F A) A w ((qre e1 t1 D p q tid e u xs br f).get i) ((args++Array.replicate (fn.ntmps-args.size) undef).getD i undef):=fun i=>by
  rw [hgetD i]
  match i with
  |0=>exact h0.step S
  |1=>exact h1.step S
  |2=>exact h2.step S
  |3=>exact ⟨bo,hA3,rfl⟩
  |4=>exact ⟨bo,hA3,rfl,fun h=>hbr (hXF br h),hcell⟩
  |i+5=>trivial
 have hinv:Inv X A (qre e1 t1 D p q tid e u xs br f) (args++Array.replicate (fn.ntmps-args.size) undef) w:=by
  refine ⟨rfl,Kept.refl _ _,hglob.step S,hslot,fun d t cs hd=> ?_,?_,fun z hz=> ?_⟩
  ·simp only [qre,getB] at hd;cases hb3:Nat.beq 3 d with
   |true=>have:=Nat.eq_of_beq_eq_true hb3;subst this;simp only [hb3,cond_true,Option.some.injEq,Prod.mk.injEq] at hd;obtain ⟨rfl,rfl⟩:=hd;exact ⟨bo,#[so],hA3,hheap,.cons hso .nil⟩
   |false=>simp [hb3] at hd
  ·refine ⟨fun d b h=> ?_,fun m b l h=> ?_,fun d d' b h h'=> ?_,fun m m' b l l' h h'=> ?_,fun d m b l h h'=> ?_,fun b hb=>⟨hF b hb.1,fun h=> ?_⟩⟩
   ·obtain ⟨_,rfl⟩:=hbx d b h;exact ⟨.inr (.inl rfl),hF _ hbo⟩
   ·have:=(htg m b l h).2;exact ⟨.inr (.inr ⟨l,this⟩),hF _ (hown b l this)⟩
   ·rw [(hbx d b h).1,(hbx d' b h').1]
   ·rw [(htg m b l h).1,(htg m' b l' h').1]
   ·exact hne b l (htg m b l h').2 (hbx d b h).2
   ·rcases h with h|⟨l,h⟩
    ·exact hb.2.1 h
    ·exact hb.2.2 l h
  ·simp only [qre,List.mem_cons,List.not_mem_nil,or_false] at hz;rcases hz with rfl|rfl|rfl|rfl|rfl
   ·exact ⟨_,hslot 0⟩
   ·exact ⟨_,hslot 1⟩
   ·exact ⟨_,hslot 2⟩
   ·exact ⟨_,hslot 3⟩
   ·exact ⟨_,hslot 4⟩
 have hn:fn.ntmps≤X.n:=by show fn.ntmps≤(args++Array.replicate (fn.ntmps-args.size) undef).size;rw [Array.size_append,Array.size_replicate];omega
 obtain ⟨ex,σ',hend,hcode⟩:=(qlv (X:=X) (fuel:=k) (f:=f) hT hR body (zjd hn hds) 0 _ _ _).1 (hev br);obtain ⟨rfl,hbox,f',h4⟩:=yma hend;refine calls_of_wp hf hb (hcode A _ w _ hinv rfl fun A' a' w' hi' hd'=> ?_);obtain ⟨bo',vs',hbx',hheap',hrc⟩:=hi'.box 3 _ _ hbox;have hs4:=hi'.slot 4;rw [h4] at hs4;obtain ⟨bo2,hb2,_,_,hcell'⟩:∃bo2,A'.bx 3=some bo2∧_=Value.pointer (some ⟨br,0,none⟩)∧¬X.F A' br∧w'.cell? ⟨br,0,none⟩=some (zhh f' bo2 br):=hs4;have hkept:Kept X.G w w':=hi'.kept;have hcw:w'.cell? ⟨br,0,none⟩=w.cell? ⟨br,0,none⟩:=World.cell?_of_block (hkept.block br (World.block_lt_of_cell? w _ hcell) fun h=>by
  rcases h with h|⟨l,h⟩
  ·exact hbr (h▸hbo)
  ·exact hbr (hown br l h))
 rw [hcw,hcell] at hcell';have hboeq:bo2=bo:=by simp only [Option.some.injEq,zhh,Value.func.injEq] at hcell';have:=hcell'.2.2;simp at this;exact this.symm
 rw [hboeq] at hb2;rw [hb2] at hbx';have hbq:bo'=bo:=(Option.some.inj hbx').symm;rw [hbq] at hheap';obtain ⟨so',rfl,hso'⟩:∃so',vs'= #[so']∧RC (X.F A') A' w' (.slice e u ys (.own tag)) so':=by
  generalize hl:vs'.toList=l at hrc;cases hrc with
  |cons h0 ht=>cases ht;exact ⟨_,Array.toList_inj.1 hl,h0⟩
 have hfin:(fun (en:Ending) w'=>en= .returned (.tuple #[])∧Kept (fun k=>k=bo∨∃l,own=some (k,l)) w w'∧
  ∃so' own',w'.heap[bo]? =some (.cells #[so'] tid (0,0))∧qyq (fun b=>(F b∧∀l,own≠some (b,l))∨∃l,own'=some (b,l)) w' e u ys bo so' own'∧
   ∀go l,own'=some (go,l)→go<w'.heap.size∧((∃l0,own=some (go,l0))∨w.heap.size≤go)) (.returned (.tuple #[])) w':=by
  refine ⟨rfl,hkept,so',A'.tg tag,hheap',?_,fun go l h=> ?_⟩
  ·rcases hso' with ⟨h5,h6,h7⟩|⟨go,l,h5,h6⟩
   ·rw [h5];exact ⟨h6,h7⟩
   ·rw [h5];refine ⟨fun e=>hi'.good.bt 3 tag bo l hb2 (e▸h5),h6.step ⟨fun _ _ _=>rfl,fun b hb=>.inl ?_⟩ rfl⟩;rcases hb with ⟨hb,hno⟩|⟨l2,hb⟩
    ·by_cases hbb:b=bo
     ·exact .inr (.inl ⟨3,by rw [hbb];exact hb2⟩)
     ·exact .inl ⟨hb,hbb,hno⟩
    ·exact .inr (.inr ⟨tag,l2,by rw [h5];exact hb⟩)
  ·refine ⟨(hi'.good.tgm tag go l h).2,?_⟩;rcases (hi'.good.tgm tag go l h).1 with h5|h5|⟨l0,h5⟩
   ·exact .inr h5
   ·exact absurd (h5▸h) fun h=>hi'.good.bt 3 tag bo l hb2 h
   ·exact .inl ⟨l0,h5⟩
 have hr:(results fn a'.tmps).run P w'= .ok (.tuple #[]) w':=by unfold results;rw [hres];simp
 exact ⟨hd',_,hr,hfin⟩
open Go.Maps (Keyed)
theorem qwo {ε α β:Type} {x:Except ε α} {f:α→Except ε β} {r:β} (h:(x >>= f)= .ok r):∃a,x= .ok a∧f a= .ok r:=by
 cases x with
 |ok a=>exact ⟨a,rfl,h⟩
 |error e=>cases h
theorem qul {α:Type}:∀(k:Ask α) (w:World),w.drawn≤(w.ask k).2.drawn
 | .done a,w=>Nat.le_refl _
 | .ask what range k,w=>by
   unfold World.ask;simp only;split
   ·exact qul (k 0) w
   ·exact Nat.le_trans (Nat.le_succ _) (qul (k _) {w with drawn:=w.drawn+1})
theorem ysl (w:World) (c:Sys):w.drawn≤(w.sys c).2.drawn:=by
 have h:=qul (Kernel.perform c w.os) w;unfold World.sys;revert h;generalize w.ask (Kernel.perform c w.os)=x;intro h;split
 ·exact Nat.le_refl _
 ·exact h
theorem qpt {P:Program} {w:World} {at_:Addr} {u:TypeId} {k:Addr} {v:Value} {at2:Bool} {r:World×List Addr} (h:w.viewStore P at_ u k v at2= .ok r):r.1.drawn=w.drawn:=by
 unfold World.viewStore at h
 repeat' (first
  |(cases h;rfl)
  |(cases h;done)
  |(obtain ⟨x,hx,h⟩:=qwo h)
  |(split at h))
theorem qwn {P:Program} {w:World} {a:Addr} {v:Value} {at2:Bool} {r:World×List Addr} (h:w.farStore P a v at2= .ok r):r.1.drawn=w.drawn:=by
 unfold World.farStore at h;split at h
 ·split at h
  ·rename_i hv;cases h;exact qpt hv
  ·cases h
 ·cases h
theorem zeo {α:Type} {P:Program}:∀(e:Sem α) {w w':World} {a:α},e.run P w= .ok a w'→w.drawn≤w'.drawn
 | .pure _,w,w',a,h=>by cases h;exact Nat.le_refl _
 | .load m x k,w,w',a,h=>by
   simp only [Sem.run] at h;split at h
   ·exact zeo (k _) h
   ·split at h
    ·exact zeo (k _) h
    ·cases h
 | .store m x v k,w,w',a,h=>by
   have fin:(match w.cell? x with
    |some _=>if w.frozen? x then Result.halt (.unsupported (.unsafePointer "a write to bytes that a string shares")) w else k.run P (w.setCell x v)
    |none=>match w.farStore P x v (m== .atomic) with
     | .ok (w,_)=>k.run P w
     | .error h=>.halt h w)=Result.ok a w'→w.drawn≤w'.drawn:=fun h=>by
    split at h
    ·split at h
     ·cases h
     ·have:=zeo k h;exact this
    ·split at h
     ·rename_i hs;have h2:=qwn hs;have:=zeo k h;simp only at h2;omega
     ·cases h
   cases v<;>first|(cases h;done)|exact fin h
 | .new o k,w,w',a,h=>by simp only [Sem.run] at h;have:=zeo (k _) h;exact this
 | .shape r k,w,w',a,h=>by simp only [Sem.run] at h;exact zeo (k _) h
 | .freeze x n k,w,w',a,h=>by simp only [Sem.run] at h;have:=zeo k h;unfold World.freeze at this;split at this<;>exact this
 | .frozen x k,w,w',a,h=>by simp only [Sem.run] at h;exact zeo (k _) h
 | .getObj r k,w,w',a,h=>by
   simp only [Sem.run] at h;split at h
   ·cases h
   ·exact zeo (k _) h
   ·cases h
 | .setObj r o k,w,w',a,h=>by
   simp only [Sem.run] at h;split at h
   ·cases h
   ·have:=zeo k h;exact this
   ·cases h
 | .choose q k,w,w',a,h=>by
   simp only [Sem.run] at h;split at h
   ·exact zeo (k _) h
   ·exact Nat.le_trans (Nat.le_succ _) (zeo (k _) h)
 | .sys c k,w,w',a,h=>by simp only [Sem.run] at h;exact Nat.le_trans (ysl w c) (zeo (k _) h)
 | .program k,w,w',a,h=>by simp only [Sem.run] at h;exact zeo (k _) h
 | .mark m k,w,w',a,h=>by simp only [Sem.run] at h;exact zeo k h
 | .halt e,w,w',a,h=>by cases h
theorem qea {w w':World} {row:Option Nat} (h:w.grownBy w' row) (hd:w.drawn≤w'.drawn):Kept (fun k=>row=some k) w w':=
 ⟨h.os,h.tape,h.output,h.size,fun k hk hg=>h.block k hk fun e=>hg e.symm,hd⟩
theorem Kept.yzh {G G':Nat→Prop} {a b:World} (h:Kept G a b) (hG:∀x,x<a.heap.size→G x→G' x):Kept G' a b:=
 ⟨h.os,h.tape,h.output,h.size,fun k hk hn=>h.block k hk fun hg=>hn (hG k hk hg),h.drawn⟩
theorem qwi {F:Fence} {nF:Nat} {H:Type} {P:Program} (w:World) {ops:Array Oper} {rest:List Oper} {o:Oper} {a:Act} {Q:Exit→Act→World→Prop}
 (hg:o.guard=none) (m x v:Operand) (t:TypeId) (hop:o.op=Op.mapUpdate t m x v)
 (k e:TypeId) (K:Keyed P k) (ht:P.underlying t=some (.map k e)) (R:Value→Option (DataW H×List MemPlace)) (b n:Nat) (D:DataW H)
 (hm:a.eval m= .map (some b)) (hown:w.ownsMap P k R b n D) (hn:n<maxLen) (key val:Value) (kl:Lit) (hx:a.eval x=key) (hv:a.eval v=val) (hkey:keyOf P k key=some kl)
 (d:DataW H) (ps:List MemPlace) (hval:R val=some (d,ps))
 (hK:∀w',w'.ownsMap P k R b (n+1) (D.put kl d)→Kept (fun i=>i=b) w w'→wpListIn F nF P ops Q rest (a.put o.dst undef) w'):
 wpListIn F nF P ops Q (o::rest) a w:=by
 refine wpListIn_plain hg fun K' hK'=> ?_
 obtain ⟨w',hrun,r1,r2⟩:=hown.update K ht hn hkey hval;unfold Oper.wpIn;refine ⟨by simp [Oper.about,hop],?_⟩;rw [Oper.semAt_plain F _ _ (by rw [hop];intro c hc';cases hc')];simp [execOp,hop,hm,hx,hv,hrun,Result.andThen];exact hK' _ _ (hK w' r1 ((qea r2 (zeo _ hrun)).yzh fun k _ h=>(Option.some.inj h).symm))
theorem qur {F:Fence} {n:Nat} {P:Program} (w:World) {ops:Array Oper} {rest:List Oper} {o:Oper} {a:Act} {Q:Exit→Act→World→Prop}
 (hg:o.guard=none) (s x:Operand) (t:TypeId) (hop:o.op=Op.call {callee:=Callee.builtin Builtin.append,args:= #[s,x],argTypes:= #[t,t]})
 (base:Nat) (e:TypeId) (i:TypeInfo) (z:Value) (size bytes:Nat) (h1:P.underlying t=some (.slice e)) (h2:P.info? e=some i) (h3:i.zero=some z) (h4:i.size=size) (h5:i.bytes=bytes) (h6:z.cells.size=size) (h7:0<size)
 (v:Value) (k:Nat) (xs:List Value) (hs:a.eval s=v) (hown:w.ownsRow base e size v k xs) (ad:Addr) (m c:Nat) (news:List Value) (hx:a.eval x= .slice (some ad) m c) (hn:news.length=m*size)
 (hc:∀j u,news[j]? =some u→w.cell? (ad.add j)=some u) (h1c:∀u∈news,u.oneCell'=true) (b1:k+m≤maxLen) (b2:(k+m)*bytes≤140737488355328) (b3:base≤w.heap.size)
 (hK:∀v' w',w'.ownsRow base e size v' (k+m) (xs++news)→Kept (fun i=>v.ownBlock=some i) w w'→(v'= .slice none 0 0↔v= .slice none 0 0∧m=0)→wpListIn F n P ops Q rest (a.put o.dst v') w'):
 wpListIn F n P ops Q (o::rest) a w:=by
 refine wpListIn_plain hg fun K hK'=> ?_
 obtain ⟨v',w',hrun,r1,r2,r3⟩:=run_append_own (P:=P) w base t o.type e i z size bytes h1 h2 h3 h4 h5 h6 h7 v k xs hown ad m c news hn hc h1c b1 b2 b3;unfold Oper.wpIn;refine ⟨?_,?_⟩
 ·simp [Oper.about,hop,resolve,Target.leads,Sem.run_pure]
 ·rw [Oper.semAt_plain F _ _ (by rw [hop];intro c hc';cases hc')];simp [execOp,hop,resolve,invoke,builtin,hs,hx,hrun,Result.andThen];exact hK' _ _ (hK v' w' r1 (qea r2 (zeo _ hrun)) r3)
theorem zsb {w:World} {base:Nat} {e:TypeId} {size n:Nat} {g cap:Nat} {xs:List Value} (h:w.ownsRow base e size (.slice (some ⟨g,0,none⟩) n cap) n xs) (j:Nat) (u:Value) (hu:xs[j]? =some u):w.cell? ((⟨g,0,none⟩:Addr).add j)=some u:=by
 obtain ⟨_,h2⟩:=h;rcases h2 with ⟨h0,_⟩|⟨g',cap',cur,hv,_,hh,_,_,_,ht⟩
 ·cases h0
 ·cases hv;rw [←ht,List.getElem?_take] at hu;split at hu
  ·rw [Array.getElem?_toList] at hu;by_cases hj:j=0
   ·subst hj;simp [World.cell?,Addr.add,hh,hu]
   ·simp [World.cell?,Addr.add,hj,hh,hu]
  ·cases hu
theorem yme {F:Fence} {n:Nat} {P:Program} (w:World) {ops:Array Oper} {rest:List Oper} {o:Oper} {a:Act} {Q:Exit→Act→World→Prop}
 (hg:o.guard=none) (s x:Operand) (t:TypeId) (hop:o.op=Op.call {callee:=Callee.builtin Builtin.append,args:= #[s,x],argTypes:= #[t,t]})
 (base:Nat) (e:TypeId) (i:TypeInfo) (z:Value) (size bytes:Nat) (h1:P.underlying t=some (.slice e)) (h2:P.info? e=some i) (h3:i.zero=some z) (h4:i.size=size) (h5:i.bytes=bytes) (h6:z.cells.size=size) (h7:0<size)
 (v:Value) (k:Nat) (xs:List Value) (hs:a.eval s=v) (hown:w.ownsRow base e size v k xs) (hk:0<k) (vx:Value) (m:Nat) (ys:List Value) (hx:a.eval x=vx) (howx:w.ownsRow base e size vx m ys)
 (h1c:∀u∈ys,u.oneCell'=true) (b1:k+m≤maxLen) (b2:(k+m)*bytes≤140737488355328) (b3:base≤w.heap.size)
 (hK:∀v' w',w'.ownsRow base e size v' (k+m) (xs++ys)→Kept (fun i=>v.ownBlock=some i) w w'→wpListIn F n P ops Q rest (a.put o.dst v') w'):
 wpListIn F n P ops Q (o::rest) a w:=by
 have hx':=howx;obtain ⟨hl,h⟩:=howx;rcases h with ⟨rfl,rfl⟩|⟨g,cap,cur,rfl,_⟩
 ·have:ys=[]:=List.eq_nil_of_length_eq_zero (by simpa using hl);subst this;have hv:=hown;obtain ⟨_,hv⟩:=hv;rcases hv with ⟨_,h0⟩|⟨g,cap,cur,rfl,_,_,hc,_⟩
  ·omega
  ·refine wpListIn_plain hg fun K hK'=> ?_
   have hrun:=qup (P:=P) (t:=t) (ty:=o.type) h1 h2 (some ⟨g,0,none⟩) none k cap 0 hc w;unfold Oper.wpIn;refine ⟨?_,?_⟩
   ·simp [Oper.about,hop,resolve,Target.leads,Sem.run_pure]
   ·rw [Oper.semAt_plain F _ _ (by rw [hop];intro c hc';cases hc')];simp [execOp,hop,resolve,invoke,builtin,hs,hx,hrun,Result.andThen];exact hK' _ _ (hK _ w (by simpa using hown) (Kept.refl _ w))
 ·exact qur w hg s x t hop base e i z size bytes h1 h2 h3 h4 h5 h6 h7 v k xs hs hown ⟨g,0,none⟩ m cap ys hx hl (fun j u hu=>zsb hx' j u hu) h1c b1 b2 b3 fun v' w' r1 r2 _=>hK v' w' r1 r2
theorem ownsRow_lit {w:World} {base:Nat} {e:TypeId} {cs:Array Value} (hb:base≤w.heap.size) (hm:0<cs.size):(w.alloc (.cells cs e)).ownsRow base e cs.size (.slice (some ⟨w.heap.size,0,none⟩) 1 1) 1 cs.toList:=
 ⟨by simp,.inr ⟨w.heap.size,1,cs,rfl,hb,zkz w _,Nat.le_refl _,by decide,by simp,by rw [Nat.one_mul,←Array.length_toList,List.take_length]⟩⟩
theorem zis {w w':World} {base:Nat} {e:TypeId} {size:Nat} {v:Value} {n:Nat} {xs:List Value} {G:Nat→Prop} (h:w.ownsRow base e size v n xs) (hk:Kept G w w') (hG:∀g,v.ownBlock=some g→¬G g):w'.ownsRow base e size v n xs:=by
 obtain ⟨h1,h2⟩:=h;refine ⟨h1,?_⟩;rcases h2 with h2|⟨g,cap,cur,rfl,hb,hh,hr⟩
 ·exact .inl h2
 ·exact .inr ⟨g,cap,cur,rfl,hb,(hk.block g (Array.getElem?_eq_some_iff.1 hh).1 (hG g rfl)).trans hh,hr⟩
theorem zna {w:World} {r:Nat} {o:Obj}:Kept (fun k=>k=r) w (w.putObj r o):=
 ⟨rfl,rfl,rfl,by simp,fun k _ hk=>World.putObj_heap_other hk,Nat.le_refl _⟩
theorem kept_alloc (w:World) (o:Obj):Kept (fun _=>False) w (w.alloc o):=(Kept.refl _ w).alloc o
theorem Kept.weak {G G':Nat→Prop} {a b:World} (h:Kept G a b) (hG:∀x,x<a.heap.size→G x→G' x):Kept G' a b:=
 ⟨h.os,h.tape,h.output,h.size,fun k hk hn=>h.block k hk fun hg=>hn (hG k hk hg),h.drawn⟩
theorem yuj {P:Program} {n:Nat} {α:Type} {g:Operand} {ps:Array Tmp} {assign body:Code} {Q:Exit→Act→World→Prop} {a:Act} {w:World}
 {gf:Nat} {lb:Array Value} (hg:a.eval g= .func (.func gf) #[] lb) (eg:∀args w,(callFunc gf args).run P w= .ok (.enter gf args) w)
 {encs:α→Array Value} (hps:∀x,(encs x).size=ps.size) {Ok Fin:List α→Prop} {M:Nat→Prop} (hM:∀b,M b→b<w.heap.size)
 (I:List α→World→Prop) (hI:∀pre W W',I pre W→Kept (fun k=>w.heap.size≤k) W W'→I pre W') (h0:I [] w)
 (hseq:∀(l:Nat) (J:List α→World→Prop) (W:World),Kept (fun _=>False) w W→w.heap.size≤l→l<W.heap.size→
  (∀pre A B,J pre A→Kept (fun k=>W.heap.size≤k) A B→J pre B)→
  (∀pre x W1,J pre W1→Ok (pre++[x])→W.heap.size≤W1.heap.size→YieldAt Fence.wide n P l (encs x) W1 fun e W'=>e= .returned (.bool true)∧J (pre++[x]) W'∧Kept (fun k=>M k∨k=l) W1 W')→
  J [] W→CallsIn Fence.wide n P gf (#[.func (.yield l) #[] #[]]++lb) W fun e W'=>(∃v,e= .returned v)∧∃xs,Fin xs∧J xs W')
 (hround:∀(l:Nat) (pre:List α) (x:α) (W:World),w.heap.size≤l→l<W.heap.size→I pre W→Ok (pre++[x])→
  assign.wpIn (Fence.wide.inRound l) n P (Exit.then (fun a' W'=>Kept (fun _=>False) W W'∧∀W2,Kept (fun k=>k=l) W' W2→
   body.wpIn (Fence.wide.inRound l) n P (fun e _ W3=>e= .normal∧Kept M W2 W3∧I (pre++[x]) W3) a' W2) (fun _ _ _=>False))
   {tmps:=(ps.zip (encs x)).foldl (fun t (p,v)=>t.setIfInBounds p v) a.tmps,defers:=[]} W)
 (hdone:∀(D:Nat) (xs:List α) (W:World),w.heap.size≤D→Fin xs→I xs W→W.heap[D]? =some (.deferred (some []))→Kept M w W→Q .normal {a with defers:={target:=.collected D,args:= #[]}::a.defers} W):
 (Code.rangeFunc g ps assign body).wpIn Fence.wide (n+1) P Q a w:=by
 refine wpIn_rangeFunc fun fn hfn=> ?_
 have hro:Fence.wide.round=none:=rfl;rw [hro]
 let rec':LoopState→Option Code→Loop:=fun st pe=>{state:=st,pending:=pe,fn,tmps:=a.tmps,params:=ps,assign,body,defers:=w.heap.size}
 obtain ⟨W1,hW1⟩:∃W1,(w.alloc (.deferred (some []))).alloc (.loop (rec' .ready none))=W1:=⟨_,rfl⟩;have hk1:Kept (fun _=>False) w W1:=by rw [←hW1];exact (kept_alloc w _).alloc _
 have hs1:W1.heap.size=w.heap.size+2:=by rw [←hW1];simp
 have hL1:W1.heap[w.heap.size+1]? =some (.loop (rec' .ready none)):=by
  rw [←hW1];have:=World.alloc_heap_new (w.alloc (.deferred (some []))) (.loop (rec' .ready none))
  rwa [World.size_alloc] at this
 have hD1:W1.heap[w.heap.size]? =some (.deferred (some [])):=by rw [←hW1];exact (zbt _ _ _ (by simp)).trans (zkz w _)
 have hI1:I [] W1:=hI [] w W1 h0 (hk1.weak fun _ _ h=>h.elim);have hleads:∀f',Target.leads P W1 (Target.fn (.func gf) lb) #[.func (.yield (w.heap.size+1)) #[] #[]]=some f'→Fence.wide.fn f':=fun f' _=>trivial
 refine ⟨w.heap.size+1,[{target:=.collected w.heap.size,args:= #[]}],W1,{target:=.fn (.func gf) lb,args:= #[.func (.yield (w.heap.size+1)) #[] #[]]},W1,gf,
  #[.func (.yield (w.heap.size+1)) #[] #[]]++lb,W1,?_,?_,hleads,?_,fun _=>by omega,?_⟩
 ·rw [←hW1];exact run_enterLoop_outer _ _ _ _ _
 ·simp only [resolve,hg];simp [go_sem]
 ·simp [invoke,go_sem,eg]
 ·let J:List α→World→Prop:=fun pre W=>I pre W∧W.heap[w.heap.size+1]? =some (.loop (rec' .ready none))∧W.heap[w.heap.size]? =some (.deferred (some []))∧Kept (fun k=>M k∨w.heap.size≤k) w W
  have hJs:∀pre A B,J pre A→Kept (fun k=>W1.heap.size≤k) A B→J pre B:=fun pre A B ⟨j1,j2,j3,j4⟩ hk=>by have l2:w.heap.size+1<A.heap.size:=(Array.getElem?_eq_some_iff.1 j2).1;exact ⟨hI pre A B j1 (hk.weak fun k _ h=>by omega),(hk.block _ l2 (by omega)).trans j2,(hk.block _ (by omega) (by omega)).trans j3,j4.trans hk fun k h=>.inl (.inr (by omega))⟩
  have hend:=hseq (w.heap.size+1) J W1 hk1 (by omega) (by omega) hJs ?_ ⟨hI1,hL1,hD1,hk1.weak fun _ _ h=>h.elim⟩
  ·refine (show n+1-1=n from rfl)▸hend.mono ?_;rintro e W2 ⟨⟨v,rfl⟩,xs,hfin,j1,j2,j3,j4⟩;refine ⟨none,_,run_endLoop j2 (by simp [rec']),?_⟩;refine hdone w.heap.size xs _ (Nat.le_refl _) hfin (hI xs W2 _ j1 (zna.weak fun k _ h=>by omega)) ((World.putObj_heap_other (by omega)).trans j3) ?_;exact (j4.trans zna fun k h=>.inl (.inr (by omega))).weak fun k hk h=>h.elim id fun h=>by omega
  ·rintro pre x W ⟨j1,j2,j3,j4⟩ hpre hsz;have hlt:w.heap.size+1<W.heap.size:=(Array.getElem?_eq_some_iff.1 j2).1;have hy:=run_yield (P:=P) (args:=encs x) j2 (hps x);refine ⟨fn,_,assign,body,hy,roundIn_of_wpIn (F:=Fence.wide) trivial (wpIn_mono (hround (w.heap.size+1) pre x W (by omega) hlt j1 hpre) ?_)⟩;intro e a' Wa hq;cases e with
   |normal=>
    obtain ⟨hka,hb⟩:=hq;have l2:Wa.heap[w.heap.size+1]? =some (.loop (rec' .ready none)):=(hka.block _ hlt fun h=>h).trans j2;have l3:Wa.heap[w.heap.size]? =some (.deferred (some [])):=(hka.block _ (by omega) fun h=>h).trans j3;have hlta:w.heap.size+1<Wa.heap.size:=(Array.getElem?_eq_some_iff.1 l2).1;refine ⟨_,run_beginRound l2 rfl,wpIn_mono (hb _ zna) ?_⟩;rintro e3 a3 W3 ⟨rfl,hk3,hi3⟩;have hMn:∀k,w.heap.size≤k→¬M k:=fun k hk hm=>by have:=hM k hm;omega
    have m2:W3.heap[w.heap.size+1]? =some (.loop {rec' .ready none with state:=.busy}):=(hk3.block _ (by simpa using hlta) (hMn _ (by omega))).trans (World.putObj_heap_same hlta);have m3:W3.heap[w.heap.size]? =some (.deferred (some [])):=(hk3.block _ (by simp;omega) (hMn _ (by omega))).trans ((World.putObj_heap_other (by omega)).trans l3);have hlt3:w.heap.size+1<W3.heap.size:=(Array.getElem?_eq_some_iff.1 m2).1;have hkk:Kept (fun k=>M k∨k=w.heap.size+1) W (W3.putObj (w.heap.size+1) (.loop {rec' .ready none with state:=.ready,pending:=none})):=
     (((hka.weak (G':=fun k=>M k∨k=w.heap.size+1) fun _ _ h=>h.elim).trans zna fun k h=>.inl (.inr h)).trans hk3 fun k h=>.inl (.inl h)).trans zna fun k h=>.inl (.inr h)
    refine ⟨_,_,run_endRound none m2,rfl,⟨hI _ W3 _ hi3 (zna.weak fun k _ h=>by omega),World.putObj_heap_same hlt3,(World.putObj_heap_other (by omega)).trans m3,?_⟩,hkk⟩;exact j4.trans hkk fun k h=>.inl (h.imp id fun h=>by omega)
   |exit id=>exact hq.elim
   |goto t=>exact hq.elim
   |ret=>exact hq.elim
   |panic ch=>exact hq.elim
   |outgrown=>exact hq.elim
end Go.Sv
