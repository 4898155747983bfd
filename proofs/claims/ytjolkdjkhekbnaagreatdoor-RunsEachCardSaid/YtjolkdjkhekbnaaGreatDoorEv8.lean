/- slices.Reverse in its place, at whole numbers. -/
import Derived.Test.YtjolkdjkhekbnaaGreatDoorEv7
import Derived.Shelf.SlicesE.Reverse
namespace Go.Sv
open Go Go.Sort Go.Proofs Go.Shelf Go.RowKit Go.Lib
theorem qus {P:Program} {ρ:Ren} (L:SlLaysE.n35 P ρ) {e:TypeId} (hcall:zak P (ρ.f 35)):qyw P (ρ.f 35) e (.int .i64):=by
 refine ⟨hcall,fun a cap w=>AnyE.slices_Reverse_empty L a cap w,fun {F w xs g l v} hne hown hF=> ?_⟩
 obtain ⟨hl,cap,cur,rfl,hh,hcap,hcm,hcs,hel⟩:=hown
 have hcs':cur.size=cap:=by simpa [Ty.sz] using hcs
 have hel':∀(i:Nat) (x:Int),xs[i]? =some x→cur[i]? =some (.int .i64 x):=fun i x hx=>by
  obtain ⟨ds,h1,h2⟩:=hel i x hx
  rw [Cl] at h1
  subst h1
  simpa [Ty.sz] using h2 0 _ rfl
 have hH:Holds (fun n:Int=>Value.int .i64 n) w g 0 (List.toArray (α:=Int) xs):=by
  intro j hj
  have hj':j<xs.length:=by simpa using hj
  refine ⟨?_,?_⟩
  ·have:=hel' j xs[j] (List.getElem?_eq_getElem hj')
   simp only [World.cell?,hh,Nat.zero_add]
   rw [getElem!_pos (List.toArray (α:=Int) xs) j hj]
   simpa using this
  ·simp [World.frozen?,hh]
 refine (AnyE.slices_Reverse L (fun n:Int=>Value.int .i64 n) (fun _=>rfl) g 0 cap xs w hH (by unfold maxLen at hcm;omega)).mono fun en w' ⟨he,n,hw⟩=> ?_
 have hw':w'=sw w g n (putCells (fun n:Int=>Value.int .i64 n) 0 (List.toArray (α:=Int) xs.reverse)) #[]:=by
  rw [hw];unfold sw;rw [grow_empty];rfl
 rw [hw']
 refine ⟨he,qeu ..,by simp [hl],cap,_,by simp,qev hh,by simpa using hcap,hcm,?_,fun i x hx=>⟨[.int .i64 x],by rw [Cl],fun j u hj=> ?_⟩⟩
 ·simp [putCells,hcs]
 ·have hj0:j=0:=by
   have:=(List.getElem?_eq_some_iff.1 hj).1
   simpa using this
  subst hj0
  cases hj
  obtain ⟨hi,hx⟩:=List.getElem?_eq_some_iff.1 hx
  rw [List.length_reverse] at hi
  have hc:i<cur.size:=by omega
  simp only [Ty.sz,Nat.mul_one,Nat.add_zero,putCells,Array.getElem?_mapIdx,Array.getElem?_eq_getElem hc,Option.map_some,Nat.zero_add,Nat.sub_zero,List.size_toArray,List.length_reverse]
  rw [if_pos ⟨Nat.zero_le _,hi⟩]
  have hi':i<(List.toArray (α:=Int) xs.reverse).size:=by simpa using hi
  rw [getElem!_pos (List.toArray (α:=Int) xs.reverse) i hi']
  simp only [List.getElem_toArray,hx]
end Go.Sv
namespace Go.Sv
open Go
def yie:List SV→Prop:=fun l=>∀s∈l,∃e t xs,s= .one (.slice e t xs .no)
def qlv (F:Nat→Prop) (w:World) (e:TypeId) (u:Ty) (xs:List u.den) (bo:Nat) (so:Value):Option (Nat×Nat)→Prop
 |none=>xs=[]∧∃a,so= .slice a 0 0
 |some (go,l)=>go≠bo∧OwnAt F w e u xs go l so
structure yql (P:Program) (E:Env) (f:Nat) (tid e:TypeId) (u:Ty) (H:List SV→List u.den→Option (List u.den)):Prop where
 call:zak P f
 plain:∀args xs ys,H args xs=some ys→yie args
 runs:∀(args:List SV) (xs ys:List u.den),H args xs=some ys→∀(w:World) (F:Nat→Prop) (bo br:Nat) (so:Value) (vs:List Value) (own:Option (Nat×Nat)),
  (∀b,F b→b<w.heap.size)→F bo→(∀go l,own=some (go,l)→F go)→w.heap[bo]? =some (.cells #[so] tid (0,0))→qlv F w e u xs bo so own→¬F br→w.cell? ⟨br,0,none⟩=some (zek f bo br)→zcr E F w→
  All2 (RS F Fr.none w) args vs→
  Calls P f (vs++([.pointer (some ⟨bo,0,none⟩),.pointer (some ⟨br,0,none⟩)]:List Value)).toArray w fun en w'=>en= .returned (.tuple #[])∧Kept (fun k=>k=bo∨∃l,own=some (k,l)) w w'∧
   ∃so' own',w'.heap[bo]? =some (.cells #[so'] tid (0,0))∧qlv (fun b=>(F b∧∀l,own≠some (b,l))∨∃l,own'=some (b,l)) w' e u ys bo so' own'∧
    ∀go l,own'=some (go,l)→go<w'.heap.size∧((∃l0,own=some (go,l0))∨w.heap.size≤go)
theorem ysg {P:Program} {E:Env} {f:Nat} {tid e:TypeId} {u:Ty} {H:List SV→List u.den→Option (List u.den)} (hS:yql P E f tid e u H)
 (hpin:∀v t' e' args u' xs ys,E.pinF v t' e' args u' xs=some ys→v=f∧t'=tid∧e'=e∧∃h:u'=u,H args (h▸xs)=some (h▸ys)):qtp P E:=by
 intro X hP hE o c fo σ σ' br v args hd ho hc hf hargs hk
 subst hP;subst hE
 unfold pinK at hk
 split at hk
 ·rename_i tid' e' u' xs n d hb hdst
  simp only [Option.bind_eq_some_iff,Option.some.injEq] at hk
  obtain ⟨ys,hys,rfl⟩:=hk
  obtain ⟨rfl,rfl,rfl,rfl,hH⟩:=hpin _ _ _ _ _ _ _ hys
  intro A a w hi hdef next Q hn
  obtain ⟨bo,vs0,hbx,hheap,hrc⟩:=hi.box 3 _ _ hb
  obtain ⟨so,rfl,hso⟩:∃so,vs0= #[so]∧RC (X.F A) A w (.slice e' u' xs (.own n)) so:=by
   generalize hl:vs0.toList=l at hrc
   cases hrc with
   |cons h0 ht=>cases ht;exact ⟨_,Array.toList_inj.1 hl,h0⟩
  have hpv:=zad hi fo
  rw [hf] at hpv
  obtain ⟨bo',hbx',hfe,hFbr,hcell⟩:∃bo',A.bx 3=some bo'∧a.eval fo=zek v bo' br∧¬X.F A br∧w.cell? ⟨br,0,none⟩=some (zek v bo' br):=hpv
  rw [hbx] at hbx'
  cases hbx'
  have hF:∀b,X.F A b→b<w.heap.size:=fun k hk=>by
   rcases hk with hk|⟨d,hk⟩|⟨n,l,hk⟩
   ·exact Nat.lt_of_lt_of_le (hi.good.f0 k hk).1 hi.kept.size
   ·exact (hi.good.bxm d k hk).2
   ·exact (hi.good.tgm n k l hk).2
  have hplain:=hS.plain _ _ _ hH
  have hvs:All2 (RS (X.F A) Fr.none w) (zdd X.E c.argTypes.toList args) (c.args.toList.map a.eval):=by
   refine zem (zhk hi (zrs hi hargs)) fun s v hs hr=> ?_
   obtain ⟨e1,t1,xs1,rfl⟩:=hplain s hs
   exact hr
  have hrow:qlv (X.F A) w e' u' xs bo so (A.tg n):=by
   rcases hso with ⟨h1,h2,h3⟩|⟨go,l,h1,h2⟩
   ·rw [h1];exact ⟨h2,h3⟩
   ·rw [h1];exact ⟨fun e=>hi.good.bt 3 n bo l hbx (e▸h1),h2⟩
  unfold Oper.wp
  rw [zwy (vs:=c.args.toList.map a.eval) (ws:=[.pointer (some ⟨bo,0,none⟩),.pointer (some ⟨br,0,none⟩)]) ho hc hfe rfl hS.call,Oper.upon_enter]
  refine (hS.runs _ _ _ hH w (X.F A) bo br so _ (A.tg n) hF (.inr (.inl ⟨3,hbx⟩)) (fun go l h=>.inr (.inr ⟨n,l,h⟩)) hheap hrow hFbr hcell hi.glob hvs).mono fun en w' ⟨he,hkept,so',own',hheap',hrow',hown'⟩=> ?_
  subst he
  show next (a.put o.dst (.tuple #[])) w'
  let A':Fr:=⟨A.bx,fun m=>if m=192 then own' else if m=n then none else A.tg m⟩
  have htg:∀m b l,A'.tg m=some (b,l)→(m=192∧own'=some (b,l))∨(m≠192∧m≠n∧A.tg m=some (b,l)):=fun m b l h=>by
   simp only [A'] at h
   split at h
   ·exact .inl ⟨‹_›,h⟩
   ·split at h
    ·cases h
    ·exact .inr ⟨‹_›,‹_›,h⟩
  have hFown:∀b l,own'=some (b,l)→X.F A b∨w.heap.size≤b:=fun b l h=>by
   rcases (hown' b l h).2 with ⟨l0,h1⟩|h1
   ·exact .inl (.inr (.inr ⟨n,l0,h1⟩))
   ·exact .inr h1
  have hold:∀k,k<w.heap.size→k≠bo→(∀l,A.tg n≠some (k,l))→w'.heap[k]? =w.heap[k]? :=fun k hlt h1 h2=>hkept.block k hlt fun h=>by
   rcases h with h|⟨l,h⟩
   ·exact h1 h
   ·exact h2 l h
  have S:Step (X.F A) (X.F A') w w':=⟨fun k hk hlt=>hold k hlt (fun e=>hk (e▸.inr (.inl ⟨3,hbx⟩))) fun l hl=>hk (.inr (.inr ⟨n,l,hl⟩)),fun k hk=>by
   rcases hk with hk|⟨d,hk⟩|⟨m,l,hk⟩
   ·exact .inl (.inl hk)
   ·exact .inl (.inr (.inl ⟨d,hk⟩))
   ·rcases htg m k l hk with ⟨_,h⟩|⟨_,_,h⟩
    ·exact hFown k l h
    ·exact .inl (.inr (.inr ⟨m,l,h⟩))⟩
  have hk':Kept X.G X.W w':=hi.kept.trans hkept fun k hk=>by
   rcases hk with rfl|⟨l,hk⟩
   ·exact (hi.good.bxm 3 _ hbx).1.symm
   ·exact (hi.good.tgm n k l hk).1.symm
  have hgood:Good X A' w':=by
   refine ⟨fun d b h=>⟨(hi.good.bxm d b h).1,Nat.lt_of_lt_of_le (hi.good.bxm d b h).2 hkept.size⟩,fun m b l h=> ?_,hi.good.bxi,fun m m' b l l' h h'=> ?_,fun d m b l h h'=> ?_,hi.good.f0⟩
   ·rcases htg m b l h with ⟨_,h⟩|⟨_,_,h⟩
    ·refine ⟨?_,(hown' b l h).1⟩
     rcases (hown' b l h).2 with ⟨l0,h1⟩|h1
     ·exact (hi.good.tgm n b l0 h1).1
     ·exact .inl (Nat.le_trans hi.kept.size h1)
    ·exact ⟨(hi.good.tgm m b l h).1,Nat.lt_of_lt_of_le (hi.good.tgm m b l h).2 hkept.size⟩
   ·rcases htg m b l h with ⟨e1,h1⟩|⟨e1,e2,h1⟩<;>rcases htg m' b l' h' with ⟨e3,h3⟩|⟨e3,e4,h3⟩
    ·rw [e1,e3]
    ·rcases (hown' b l h1).2 with ⟨l0,h5⟩|h5
     ·exact absurd (hi.good.tgi m' n b l' l0 h3 h5) e4
     ·have:=(hi.good.tgm m' b l' h3).2;omega
    ·rcases (hown' b l' h3).2 with ⟨l0,h5⟩|h5
     ·exact absurd (hi.good.tgi m n b l l0 h1 h5) e2
     ·have:=(hi.good.tgm m b l h1).2;omega
    ·exact hi.good.tgi m m' b l l' h1 h3
   ·rcases htg m b l h' with ⟨e1,h1⟩|⟨e1,e2,h1⟩
    ·rcases (hown' b l h1).2 with ⟨l0,h5⟩|h5
     ·exact hi.good.bt d n b l0 h h5
     ·have:=(hi.good.bxm d b h).2;omega
    ·exact hi.good.bt d m b l h h1
  have hmap:∀c v,RC (X.F A) A w c v→RC (X.F A') A' w' (PC.zbf (fun m=>bif mem [n,192] m then some false else none) c) v:=fun c v hc=>by
   cases c with
   |slice e1 t1 xs1 q =>
    cases q with
    |own m =>
     unfold PC.zbf
     by_cases hm:m∈[n,192]
     ·simp only [mem_iff.2 hm,cond_true];exact RC.one hc
     ·simp only [zhr hm,cond_false]
      have hm1:m≠n:=fun e=>hm (by simp [e])
      have hm2:m≠192:=fun e=>hm (by simp [e])
      have e1:A'.tg m=A.tg m:=by simp [A',hm1,hm2]
      exact RC.step S ⟨fun h=>e1.trans h,fun b l h=>⟨e1.trans h,hold b (hi.good.tgm m b l h).2 (fun e=>hi.good.bt 3 m bo l hbx (e▸h)) fun l' h'=>hm1 (hi.good.tgi m n b l l' h h')⟩⟩ hc
    |_=>exact RC.step S trivial hc
   |elemT u1 m i o =>
    unfold PC.zbf
    by_cases hm:m∈[n,192]
    ·simp only [mem_iff.2 hm,cond_true];exact RC.one hc
    ·simp only [zhr hm,cond_false]
     have hm1:m≠n:=fun e=>hm (by simp [e])
     have hm2:m≠192:=fun e=>hm (by simp [e])
     have e1:A'.tg m=A.tg m:=by simp [A',hm1,hm2]
     exact RC.step S (fun b l h=>e1.trans h) hc
   |box d o=>exact RC.step S (fun _ h=>h) hc
   |pin _ _=>exact RC.step S (fun _ h=>h) hc
   |pinp _ _=>exact RC.step S (fun _ h=>h) hc
   |_=>exact RC.step S trivial hc
  have hi1:Inv X A {s:=σ.s,b:=delB σ.b 3} a.tmps w:=⟨hi.sz,hi.kept,hi.glob,hi.slot,fun d' tid1 cs hd'=>by
   rw [zkx] at hd'
   split at hd'
   ·cases hd'
   ·exact hi.box d' tid1 cs hd',hi.good,hi.ent⟩
  have hi2:=hi1.map hmap hk' S hgood fun d' tid1 cs b vs1 hd' hb' hw'=>by
   have hd3:d'≠3:=fun e=>by rw [e,zkx] at hd';simp at hd'
   exact ⟨hb',(hold b (hi.good.bxm d' b hb').2 (fun e=>hd3 (hi.good.bxi d' 3 b hb' (e▸hbx))) fun l hl=>hi.good.bt d' n b l hb' hl).trans hw'⟩
  have hso':RC (X.F A') A' w' (.slice e' u' ys (.own 192)) so':=by
   cases ho':own' with
   |none =>
    rw [ho'] at hrow'
    exact .inl ⟨by simp [A',ho'],hrow'.1,hrow'.2⟩
   |some q =>
    obtain ⟨go,l⟩:=q
    rw [ho'] at hrow'
    refine .inr ⟨go,l,by simp [A',ho'],hrow'.2.step ⟨fun _ _ _=>rfl,fun b hb=>.inl ?_⟩ rfl⟩
    rcases hb with hb|⟨d',hb⟩|⟨m,l1,hb⟩
    ·exact .inl ⟨.inl hb,fun l2 h2=>hi.good.f0m (hi.good.tgm n b l2 h2).1 hb⟩
    ·exact .inl ⟨.inr (.inl ⟨d',hb⟩),fun l2 h2=>hi.good.bt d' n b l2 hb h2⟩
    ·rcases htg m b l1 hb with ⟨_,h1⟩|⟨_,e2,h1⟩
     ·exact .inr ⟨l1,by rw [ho'] at h1;exact h1⟩
     ·exact .inl ⟨.inr (.inr ⟨m,l1,h1⟩),fun l2 h2=>e2 (hi.good.tgi m n b l1 l2 h1 h2)⟩
  have hkill:σ.kill [n,192]=σ.map (PC.zbf fun m=>bif mem [n,192] m then some false else none):=rfl
  have hi3:Inv X A' {s:=(σ.kill [n,192]).s,b:=(3,(tid',[.slice e' u' ys (.own 192)]))::delB (σ.kill [n,192]).b 3} a.tmps w':=by
   refine ⟨hi2.sz,hi2.kept,hi2.glob,hi2.slot,fun d' tid1 cs hd'=> ?_,hi2.good,hi2.ent⟩
   simp only [getB] at hd'
   cases hb3:Nat.beq 3 d' with
   |true =>
    have:=Nat.eq_of_beq_eq_true hb3
    subst this
    simp only [hb3,cond_true,Option.some.injEq,Prod.mk.injEq] at hd'
    obtain ⟨rfl,rfl⟩:=hd'
    exact ⟨bo,#[so'],hbx,hheap',.cons hso' .nil⟩
   |false =>
    have hne:d'≠3:=fun e=>by rw [e] at hb3;cases hb3
    simp only [hb3,cond_false,zkx,if_neg hne] at hd'
    refine hi2.box d' tid1 cs ?_
    rw [hkill] at hd'
    simp only [St.map,qdy,zkx,if_neg hne] at hd' ⊢
    exact hd'
  refine hn A' _ w' ?_ (by rw [put_defers];exact hdef)
  rw [hdst]
  exact hi3.put (fun d1 h1=>hd d1 (by rw [hdst];exact h1)) fun _=>trivial
 ·cases hk
def qti (tid e:TypeId) (u:Ty) (ex:Ex) (σ:St):Option (Nat×Nat×List u.den) :=
 if ex= .normal then (match getB σ.b 3,σ.get 4 with
  |some (t,[.slice e' u' ys (.own n)]),.sv (.one (.pinp br _))=>(if h:t=tid∧e'=e∧u'=u then some (br,n,h.2.2▸ys) else none)
  |_,_=>none) else none
theorem qws {tid e:TypeId} {u:Ty} {ex:Ex} {σ:St} {br n:Nat} {ys:List u.den} (h:qti tid e u ex σ=some (br,n,ys)):ex= .normal∧getB σ.b 3=some (tid,[.slice e u ys (.own n)])∧∃f,σ.get 4= .sv (.one (.pinp br f)):=by
 unfold qti at h
 split at h
 ·rename_i hx
  refine ⟨hx,?_⟩
  split at h
  ·rename_i t e' u' ys' n' br' f' hg h4
   split at h
   ·rename_i hq
    obtain ⟨rfl,rfl,rfl⟩:=hq
    cases h
    exact ⟨hg,f',h4⟩
   ·cases h
  ·cases h
 ·cases h
def qfw (e1:TypeId) (t1:Ty) (D p q:List t1.den) (tid e:TypeId) (u:Ty) (xs:List u.den) (br f:Nat):St :=
 ⟨[(0,.sv (.one (.slice e1 t1 D .no))),(1,.sv (.one (.slice e1 t1 p .no))),(2,.sv (.one (.slice e1 t1 q .no))),(3,.sv (.one (.box 3 0))),(4,.sv (.one (.pinp br f)))],[(3,(tid,[.slice e u xs (.own 192)]))]⟩
theorem qzp {P:Program} {E:Env} {run:Runs E} (hT:zvf P E) (hR:zsh P E run) {f k:Nat} {fn:Func} {body:Code} (hf:P.funcs[f]? =some fn) (hb:fn.body=some body) (hds:zgs fn.ntmps body=true) (hres:fn.results= #[])
 {tid e e1:TypeId} {u t1:Ty} {D p q:List t1.den} {xs ys:List u.den} {tag:Nat}
 (hev:∀br,zdb E run k f body 0 none (qfw e1 t1 D p q tid e u xs br f) (qti tid e u)=some (br,tag,ys)) :
 ∀(w:World) (F:Nat→Prop) (bo br:Nat) (so:Value) (vs:List Value) (own:Option (Nat×Nat)),
  (∀b,F b→b<w.heap.size)→F bo→(∀go l,own=some (go,l)→F go)→w.heap[bo]? =some (.cells #[so] tid (0,0))→qlv F w e u xs bo so own→¬F br→w.cell? ⟨br,0,none⟩=some (zek f bo br)→zcr E F w→
  All2 (RS F Fr.none w) [.one (.slice e1 t1 D .no),.one (.slice e1 t1 p .no),.one (.slice e1 t1 q .no)] vs→
  Calls P f (vs++([.pointer (some ⟨bo,0,none⟩),.pointer (some ⟨br,0,none⟩)]:List Value)).toArray w fun en w'=>en= .returned (.tuple #[])∧Kept (fun k=>k=bo∨∃l,own=some (k,l)) w w'∧
   ∃so' own',w'.heap[bo]? =some (.cells #[so'] tid (0,0))∧qlv (fun b=>(F b∧∀l,own≠some (b,l))∨∃l,own'=some (b,l)) w' e u ys bo so' own'∧
    ∀go l,own'=some (go,l)→go<w'.heap.size∧((∃l0,own=some (go,l0))∨w.heap.size≤go):=by
 intro w F bo br so vs own hF hbo hown hheap hrow hbr hcell hglob hvs
 obtain ⟨v0,v1,v2,rfl,h0,h1,h2⟩:∃v0 v1 v2,vs=[v0,v1,v2]∧Cl F w (.slice e1 t1) D [v0]∧Cl F w (.slice e1 t1) p [v1]∧Cl F w (.slice e1 t1) q [v2]:=by
  cases hvs with
  |cons a hvs=>cases hvs with
   |cons b hvs=>cases hvs with
    |cons c hvs=>cases hvs;exact ⟨_,_,_,rfl,a,b,c⟩
 let args:Array Value:=([v0,v1,v2]++([.pointer (some ⟨bo,0,none⟩),.pointer (some ⟨br,0,none⟩)]:List Value)).toArray
 let X:Ctx:={P:=P,E:=E,W:=w,G:=fun k=>k=bo∨∃l,own=some (k,l),F0:=fun b=>F b∧b≠bo∧∀l,own≠some (b,l),n:=(args++Array.replicate (fn.ntmps-args.size) undef).size}
 let A:Fr:=⟨fun d=>if d=3 then some bo else none,fun m=>if m=192 then own else none⟩
 have hA3:A.bx 3=some bo:=by simp [A]
 have hbx:∀d b,A.bx d=some b→d=3∧b=bo:=fun d b h=>by
  simp only [A] at h
  split at h
  ·cases h;exact ⟨‹_›,rfl⟩
  ·cases h
 have htg:∀m b l,A.tg m=some (b,l)→m=192∧own=some (b,l):=fun m b l h=>by
  simp only [A] at h
  split at h
  ·exact ⟨‹_›,h⟩
  ·cases h
 have hXF:∀b,X.F A b→F b:=fun b hb=>by
  rcases hb with hb|⟨d,hb⟩|⟨m,l,hb⟩
  ·exact hb.1
  ·obtain ⟨_,rfl⟩:=hbx d b hb;exact hbo
  ·exact hown b l (htg m b l hb).2
 have hFX:∀b,F b→X.F A b:=fun b hb=>by
  by_cases h1:b=bo
  ·exact .inr (.inl ⟨3,by rw [h1];exact hA3⟩)
  ·by_cases h2:∃l,own=some (b,l)
   ·obtain ⟨l,h2⟩:=h2
    exact .inr (.inr ⟨192,l,by simp [A,h2]⟩)
   ·exact .inl ⟨hb,h1,fun l hl=>h2 ⟨l,hl⟩⟩
 have S:Step F (X.F A) w w:=⟨fun _ _ _=>rfl,fun b hb=>.inl (hXF b hb)⟩
 have hne:∀go l,own=some (go,l)→go≠bo:=fun go l h=>by rw [h] at hrow;exact hrow.1
 have hso:RC (X.F A) A w (.slice e u xs (.own 192)) so:=by
  cases ho:own with
  |none=>rw [ho] at hrow;exact .inl ⟨by simp [A,ho],hrow.1,hrow.2⟩
  |some z =>
   obtain ⟨go,l⟩:=z
   rw [ho] at hrow
   exact .inr ⟨go,l,by simp [A,ho],hrow.2.step S rfl⟩
 have hgetD:∀i,(args++Array.replicate (fn.ntmps-args.size) undef).getD i undef=match i with|0=>v0|1=>v1|2=>v2|3=>.pointer (some ⟨bo,0,none⟩)|4=>.pointer (some ⟨br,0,none⟩)|_=>(args++Array.replicate (fn.ntmps-args.size) undef).getD i undef:=fun i=>by
  match i with
  |0=>simp [args,Array.getElem?_append]|1=>simp [args,Array.getElem?_append]|2=>simp [args,Array.getElem?_append]|3=>simp [args,Array.getElem?_append]|4=>simp [args,Array.getElem?_append]|i+5=>rfl
 have hslot:∀i,RP (X.F A) A w ((qfw e1 t1 D p q tid e u xs br f).get i) ((args++Array.replicate (fn.ntmps-args.size) undef).getD i undef):=fun i=>by
  rw [hgetD i]
  match i with
  |0=>exact h0.step S
  |1=>exact h1.step S
  |2=>exact h2.step S
  |3=>exact ⟨bo,hA3,rfl⟩
  |4=>exact ⟨bo,hA3,rfl,fun h=>hbr (hXF br h),hcell⟩
  |i+5=>trivial
 have hinv:Inv X A (qfw e1 t1 D p q tid e u xs br f) (args++Array.replicate (fn.ntmps-args.size) undef) w:=by
  refine ⟨rfl,Kept.refl _ _,hglob.step S,hslot,fun d t cs hd=> ?_,?_,fun z hz=> ?_⟩
  ·simp only [qfw,getB] at hd
   cases hb3:Nat.beq 3 d with
   |true =>
    have:=Nat.eq_of_beq_eq_true hb3
    subst this
    simp only [hb3,cond_true,Option.some.injEq,Prod.mk.injEq] at hd
    obtain ⟨rfl,rfl⟩:=hd
    exact ⟨bo,#[so],hA3,hheap,.cons hso .nil⟩
   |false=>simp [hb3] at hd
  ·refine ⟨fun d b h=> ?_,fun m b l h=> ?_,fun d d' b h h'=> ?_,fun m m' b l l' h h'=> ?_,fun d m b l h h'=> ?_,fun b hb=>⟨hF b hb.1,fun h=> ?_⟩⟩
   ·obtain ⟨_,rfl⟩:=hbx d b h;exact ⟨.inr (.inl rfl),hF _ hbo⟩
   ·have:=(htg m b l h).2;exact ⟨.inr (.inr ⟨l,this⟩),hF _ (hown b l this)⟩
   ·rw [(hbx d b h).1,(hbx d' b h').1]
   ·rw [(htg m b l h).1,(htg m' b l' h').1]
   ·exact hne b l (htg m b l h').2 (hbx d b h).2
   ·rcases h with h|⟨l,h⟩
    ·exact hb.2.1 h
    ·exact hb.2.2 l h
  ·simp only [qfw,List.mem_cons,List.not_mem_nil,or_false] at hz
   rcases hz with rfl|rfl|rfl|rfl|rfl
   ·exact ⟨_,hslot 0⟩
   ·exact ⟨_,hslot 1⟩
   ·exact ⟨_,hslot 2⟩
   ·exact ⟨_,hslot 3⟩
   ·exact ⟨_,hslot 4⟩
 have hn:fn.ntmps≤X.n:=by
  show fn.ntmps≤(args++Array.replicate (fn.ntmps-args.size) undef).size
  rw [Array.size_append,Array.size_replicate];omega
 obtain ⟨ex,σ',hend,hcode⟩:=(qbd (X:=X) (fuel:=k) (f:=f) hT hR body (zfj hn hds) 0 _ _ _).1 (hev br)
 obtain ⟨rfl,hbox,f',h4⟩:=qws hend
 refine calls_of_wp hf hb (hcode A _ w _ hinv rfl fun A' a' w' hi' hd'=> ?_)
 obtain ⟨bo',vs',hbx',hheap',hrc⟩:=hi'.box 3 _ _ hbox
 have hs4:=hi'.slot 4
 rw [h4] at hs4
 obtain ⟨bo2,hb2,_,_,hcell'⟩:∃bo2,A'.bx 3=some bo2∧_=Value.pointer (some ⟨br,0,none⟩)∧¬X.F A' br∧w'.cell? ⟨br,0,none⟩=some (zek f' bo2 br):=hs4
 have hkept:Kept X.G w w':=hi'.kept
 have hcw:w'.cell? ⟨br,0,none⟩=w.cell? ⟨br,0,none⟩:=World.cell?_of_block (hkept.block br (World.block_lt_of_cell? w _ hcell) fun h=>by
  rcases h with h|⟨l,h⟩
  ·exact hbr (h▸hbo)
  ·exact hbr (hown br l h))
 rw [hcw,hcell] at hcell'
 have hboeq:bo2=bo:=by
  simp only [Option.some.injEq,zek,Value.func.injEq] at hcell'
  have:=hcell'.2.2
  simp at this
  exact this.symm
 rw [hboeq] at hb2
 rw [hb2] at hbx'
 have hbq:bo'=bo:=(Option.some.inj hbx').symm
 rw [hbq] at hheap'
 obtain ⟨so',rfl,hso'⟩:∃so',vs'= #[so']∧RC (X.F A') A' w' (.slice e u ys (.own tag)) so':=by
  generalize hl:vs'.toList=l at hrc
  cases hrc with
  |cons h0 ht=>cases ht;exact ⟨_,Array.toList_inj.1 hl,h0⟩
 have hfin:(fun (en:Ending) w'=>en= .returned (.tuple #[])∧Kept (fun k=>k=bo∨∃l,own=some (k,l)) w w'∧
  ∃so' own',w'.heap[bo]? =some (.cells #[so'] tid (0,0))∧qlv (fun b=>(F b∧∀l,own≠some (b,l))∨∃l,own'=some (b,l)) w' e u ys bo so' own'∧
   ∀go l,own'=some (go,l)→go<w'.heap.size∧((∃l0,own=some (go,l0))∨w.heap.size≤go)) (.returned (.tuple #[])) w':=by
  refine ⟨rfl,hkept,so',A'.tg tag,hheap',?_,fun go l h=> ?_⟩
  ·rcases hso' with ⟨h5,h6,h7⟩|⟨go,l,h5,h6⟩
   ·rw [h5];exact ⟨h6,h7⟩
   ·rw [h5]
    refine ⟨fun e=>hi'.good.bt 3 tag bo l hb2 (e▸h5),h6.step ⟨fun _ _ _=>rfl,fun b hb=>.inl ?_⟩ rfl⟩
    rcases hb with ⟨hb,hno⟩|⟨l2,hb⟩
    ·by_cases hbb:b=bo
     ·exact .inr (.inl ⟨3,by rw [hbb];exact hb2⟩)
     ·exact .inl ⟨hb,hbb,hno⟩
    ·exact .inr (.inr ⟨tag,l2,by rw [h5];exact hb⟩)
  ·refine ⟨(hi'.good.tgm tag go l h).2,?_⟩
   rcases (hi'.good.tgm tag go l h).1 with h5|h5|⟨l0,h5⟩
   ·exact .inr h5
   ·exact absurd (h5▸h) fun h=>hi'.good.bt 3 tag bo l hb2 h
   ·exact .inl ⟨l0,h5⟩
 have hr:(results fn a'.tmps).run P w'= .ok (.tuple #[]) w':=by
  unfold results
  rw [hres]
  simp
 exact ⟨hd',_,hr,hfin⟩
end Go.Sv
