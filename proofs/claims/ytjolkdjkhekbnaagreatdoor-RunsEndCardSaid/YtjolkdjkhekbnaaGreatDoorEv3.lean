/- Calls: what a caller makes of a callee's promise. -/
import Derived.Test.YtjolkdjkhekbnaaGreatDoorEv2
import Derived.ScopeJumps
set_option linter.unusedVariables false
set_option linter.unusedSimpArgs false
namespace Go.Sv
open Go
theorem PC.map_id:∀c,PC.zcs (fun _=>none) c=c:=fun c=>by
 cases c with
 |slice e t xs g=>cases g<;>rfl
 |_=>rfl
theorem PC.map_id':(PC.zcs fun _=>none)=id:=funext PC.map_id
theorem SV.map_id (s:SV):s.map (PC.zcs fun _=>none)=s:=by
 cases s with
 |one c=>simp [SV.map,PC.map_id]
 |agg cs=>simp [SV.map,PC.map_id']
theorem PV.map_id (p:PV):p.map (PC.zcs fun _=>none)=p:=by
 cases p with
 |undef=>rfl
 |void=>rfl
 |sv s=>simp [PV.map,SV.map_id]
 |tup l=>simp [PV.map,SV.map_id]
theorem St.map_id (σ:St):σ.map (PC.zcs fun _=>none)=σ:=by obtain ⟨s,b⟩:=σ;simp [St.map,PV.map_id];simp [PC.map_id']
theorem SV.map_map (f g:PC→PC) (s:SV):(s.map g).map f=s.map (f∘g):=by cases s<;>simp [SV.map]
theorem PV.map_map (f g:PC→PC) (p:PV):(p.map g).map f=p.map (f∘g):=by cases p<;>simp [PV.map,SV.map_map]
theorem St.map_map (f g:PC→PC) (σ:St):(σ.map g).map f=σ.map (f∘g):=by obtain ⟨s,b⟩:=σ;simp [St.map,PV.map_map,List.map_map,Function.comp_def]
theorem St.yla (l:List Nat) (σ:St):σ.kill l=σ.map (PC.zcs fun n=>bif mem l n then some false else none):=by
 cases l with
 |nil=>exact (St.map_id σ).symm
 |cons x l=>rfl
theorem St.qxn (l:List Nat) (σ:St):σ.release l=σ.map (PC.zcs fun n=>bif mem l n then some true else none):=by
 cases l with
 |nil=>exact (St.map_id σ).symm
 |cons x l=>rfl
theorem zmi {l:List Nat} {n:Nat} (h:n∉l):mem l n=false:=by
 cases hb:mem l n with
 |false=>rfl
 |true=>exact absurd (mem_iff.1 hb) h
section
variable {X:Ctx} {σ:St}
def Hand.G (H:Hand) (A:Fr) (b:Nat):Prop:=∃n l,n∈H.srcs∧A.tg n=some (b,l)
def Hand.F0 (X:Ctx) (H:Hand) (A:Fr) (b:Nat):Prop:=X.F0 b∨(∃d,A.bx d=some b∧d∉H.pm)∨∃n l,A.tg n=some (b,l)∧n∉H.srcs∧n∉H.pl
def Fr.after (A T:Fr) (H:Hand) (rl names:List Nat):Fr:=⟨A.bx,fun m=>if m∈names then T.tg m else if m∈H.srcs∨m∈rl then none else A.tg m⟩
theorem Inv.qut {A T:Fr} {tm:Array Value} {w w':World} (h:Inv X A σ tm w) {H:Hand} (hH:H.OK) {rl names:List Nat} (hrl:∀m∈rl,m∈H.pl) (hk:Kept (H.G A) w w')
 (htm:∀n b l,T.tg n=some (b,l)→(w.heap.size≤b∨H.G A b)∧b<w'.heap.size) (hti:∀n n' b l l',T.tg n=some (b,l)→T.tg n'=some (b,l')→n=n'):
 Inv X (A.after T H rl names) (((σ.kill H.srcs).release rl).kill names) tm w':=by
 have hGF:∀b,H.G A b→X.F A b:=fun b ⟨n,l,_,hb⟩=>.inr (.inr ⟨n,l,hb⟩)
 have htg:∀m b l,(A.after T H rl names).tg m=some (b,l)→(m∈names∧T.tg m=some (b,l))∨(m∉names∧m∉H.srcs∧m∉rl∧A.tg m=some (b,l)):=fun m b l hb=>by
  simp only [Fr.after] at hb;split at hb
  ·exact .inl ⟨‹_›,hb⟩
  ·split at hb
   ·cases hb
   ·rename_i h1 h2;exact .inr ⟨h1,fun h=>h2 (.inl h),fun h=>h2 (.inr h),hb⟩
 have hsame:∀m,m∉names→m∉H.srcs→m∉rl→(A.after T H rl names).tg m=A.tg m:=fun m h1 h2 h3=>by simp [Fr.after,h1,h2,h3]
 have hheap:∀b,b<w.heap.size→¬H.G A b→w'.heap[b]? =w.heap[b]? :=fun b hb hg=>hk.block b hb hg
 have hnG:∀m b l,A.tg m=some (b,l)→m∉H.srcs→¬H.G A b:=fun m b l hm hs ⟨n,l',hn,hb⟩=>hs (h.good.tgi n m b l' l hb hm▸hn)
 have hnB:∀d b,A.bx d=some b→¬H.G A b:=fun d b hd ⟨n,l',hn,hb⟩=>h.good.bt d n b l' hd hb
 have S:Step (X.F A) (X.F (A.after T H rl names)) w w':=⟨fun b hb hlt=>hheap b hlt fun hg=>hb (hGF b hg),fun b hb=>by
  rcases hb with hb|hb|⟨m,l,hb⟩
  ·exact .inl (.inl hb)
  ·exact .inl (.inr (.inl hb))
  ·rcases htg m b l hb with ⟨_,hb⟩|⟨_,_,_,hb⟩
   ·rcases (htm m b l hb).1 with h1|h1
    ·exact .inr h1
    ·exact .inl (hGF b h1)
   ·exact .inl (.inr (.inr ⟨m,l,hb⟩))⟩
 have hnF:∀m b l,A.tg m=some (b,l)→m∈rl→¬X.F (A.after T H rl names) b:=fun m b l hm hr hF=>by
  have hns:m∉H.srcs:=hH.pl m (hrl m hr);rcases hF with hF|⟨d,hF⟩|⟨m',l',hF⟩
  ·exact h.good.f0m (h.good.tgm m b l hm).1 hF
  ·exact h.good.bt d m b l hF hm
  ·rcases htg m' b l' hF with ⟨_,hF⟩|⟨_,_,h3,hF⟩
   ·rcases (htm m' b l' hF).1 with h1|h1
    ·have:=(h.good.tgm m b l hm).2;omega
    ·exact hnG m b l hm hns h1
   ·exact h3 (h.good.tgi m m' b l l' hm hF▸hr)
 rw [St.yla,St.qxn,St.yla,St.map_map,St.map_map];refine h.map (fun c v hc=> ?_) (h.kept.trans hk fun b ⟨n,l,_,hb⟩=> ?_) S ?_ (fun d tid cs b vs _ hb hw=>⟨hb,(hheap b (h.good.bxm d b hb).2 (hnB d b hb)).trans hw⟩)
 ·cases c with
  |slice e t xs g=>
   cases g with
   |no=>exact RC.step S trivial hc
   |nil=>exact RC.step S trivial hc
   |exact=>exact RC.step S trivial hc
   |own m=>
    simp only [Function.comp,PC.zcs];by_cases h1:m∈H.srcs
    ·simp only [mem_iff.2 h1,cond_true,PC.zcs];exact RC.one hc
    ·simp only [zmi h1,cond_false,PC.zcs];by_cases h2:m∈rl
     ·simp only [mem_iff.2 h2,cond_true,PC.zcs];rcases hc with ⟨_,rfl,a,rfl⟩|⟨g,k,hg,ho⟩
      ·show Cl _ _ _ _ _;rw [Cl];exact ⟨a,0,rfl,Nat.le_refl _,.inl rfl⟩
      ·exact (ho.step S (hheap g (h.good.tgm m g k hg).2 (hnG m g k hg h1))).plain (hnF m g k hg h2)
     ·simp only [zmi h2,cond_false,PC.zcs];by_cases h3:m∈names
      ·simp only [mem_iff.2 h3,cond_true];exact RC.one hc
      ·simp only [zmi h3,cond_false];exact RC.step S ⟨fun e=>(hsame m h3 h1 h2).trans e,fun g k hg=>⟨(hsame m h3 h1 h2).trans hg,hheap g (h.good.tgm m g k hg).2 (hnG m g k hg h1)⟩⟩ hc
  |elemT u m i o=>
   simp only [Function.comp,PC.zcs];by_cases h1:m∈H.srcs
   ·simp only [mem_iff.2 h1,cond_true,PC.zcs];exact RC.one hc
   ·simp only [zmi h1,cond_false,PC.zcs];by_cases h2:m∈rl
    ·simp only [mem_iff.2 h2,cond_true,PC.zcs];exact RC.one hc
    ·simp only [zmi h2,cond_false,PC.zcs];by_cases h3:m∈names
     ·simp only [mem_iff.2 h3,cond_true];exact RC.one hc
     ·simp only [zmi h3,cond_false];exact RC.step S (fun g k hg=>(hsame m h3 h1 h2).trans hg) hc
  |box d o=>exact RC.step S (fun _ h=>h) hc
  |pin _ _=>exact RC.step S (fun _ h=>h) hc
  |pinp _ _=>exact RC.step S (fun _ h=>h) hc
  |_=>exact RC.step S trivial hc
 ·exact (h.good.tgm n b l hb).1.symm
 ·refine ⟨fun d b hb=> ?_,fun m b k hb=> ?_,h.good.bxi,fun m m' b k k' h1 h2=> ?_,fun d m b k h1 h2=> ?_,h.good.f0⟩
  ·have:=h.good.bxm d b hb;exact ⟨this.1,Nat.lt_of_lt_of_le this.2 hk.size⟩
  ·rcases htg m b k hb with ⟨_,hb⟩|⟨_,_,_,hb⟩
   ·obtain ⟨h1,h2⟩:=htm m b k hb;refine ⟨?_,h2⟩;rcases h1 with h1|⟨n,l,_,h1⟩
    ·exact .inl (Nat.le_trans h.kept.size h1)
    ·exact (h.good.tgm n b l h1).1
   ·have:=h.good.tgm m b k hb;exact ⟨this.1,Nat.lt_of_lt_of_le this.2 hk.size⟩
  ·have mix:∀{m m' b k k'},T.tg m=some (b,k)→A.tg m'=some (b,k')→m'∉H.srcs→False:=fun {m m' b k k'} q1 q2 q3=>by
    rcases (htm m b k q1).1 with q|q
    ·have:=(h.good.tgm m' b k' q2).2;omega
    ·exact hnG m' b k' q2 q3 q
   rcases htg m b k h1 with ⟨_,k1⟩|⟨_,s1,_,k1⟩<;>rcases htg m' b k' h2 with ⟨_,k2⟩|⟨_,s2,_,k2⟩
   ·exact hti m m' b k k' k1 k2
   ·exact (mix k1 k2 s2).elim
   ·exact (mix k2 k1 s1).elim
   ·exact h.good.tgi m m' b k k' k1 k2
  ·rcases htg m b k h2 with ⟨_,k2⟩|⟨_,_,_,k2⟩
   ·rcases (htm m b k k2).1 with q|q
    ·have:=(h.good.bxm d b h1).2;omega
    ·exact hnB d b h1 q
   ·exact h.good.bt d m b k h1 k2
def yxx (names:List Nat):PC→Prop
 | .slice _ _ _ (.own m)=>m∈names
 | .elemT _ _ _ _=>False
 |_=>True
theorem qkq (names:List Nat):∀(t:Ty) (x:t.den),∀c∈t.toPC x,yxx names c∧∀e u xs n,c≠.slice e u xs (.own n)
 | .bool,x,c,hc=>by rw [List.mem_singleton.1 hc];exact ⟨trivial,by simp⟩
 | .int _,x,c,hc=>by rw [List.mem_singleton.1 hc];exact ⟨trivial,by simp⟩
 | .str,x,c,hc=>by rw [List.mem_singleton.1 hc];exact ⟨trivial,by simp⟩
 | .fn,x,c,hc=>by rw [List.mem_singleton.1 hc];exact ⟨trivial,by simp⟩
 | .slice _ _,x,c,hc=>by rw [List.mem_singleton.1 hc];exact ⟨trivial,by simp⟩
 | .pair a b,x,c,hc=>by
   rcases List.mem_append.1 hc with hc|hc
   ·exact qkq names a _ c hc
   ·exact qkq names b _ c hc
theorem zsm {slot j:Nat}:∀{k:Nat} (cs:List PC),zti [] slot j k cs=cs
 |_,[]=>rfl
 |k,c::r=>by cases c<;>simp [zti,zsm r,mem]
theorem qte (names own:List Nat) (slot j:Nat) (hn:∀k∈own,zcc slot j k∈names):∀(k:Nat) (cs:List PC),(∀c∈cs,yxx names c)→∀c∈zti own slot j k cs,yxx names c
 |_,[],_,c,hc=>by cases hc
 |k,c0::r,h,c,hc=>by
  have hr:=qte names own slot j hn (k+1) r (fun c hc=>h c (List.mem_cons_of_mem _ hc));have h0:=h c0 (List.mem_cons_self ..);cases c0 with
  |slice e t xs g=>
   simp only [zti,List.mem_cons] at hc;rcases hc with rfl|hc
   ·cases hm:mem own k with
    |true=>exact hn k (mem_iff.1 hm)
    |false=>exact h0
   ·exact hr c hc
  |_=>
   simp only [zti,List.mem_cons] at hc;rcases hc with rfl|hc
   ·exact h0
   ·exact hr c hc
theorem qmh {names:List Nat} {slot j:Nat} {k:Kd} (hn:∀q∈k.own,zcc slot j q∈names) (x:k.den):∀c∈(k.unpack slot j x).cells,yxx names c:=by
 cases k with
 |v t own=>
  have hl:=qte names own slot j hn 0 (t.toPC x) (fun c hc=>(qkq names t x c hc).1);intro c hc;simp only [Kd.unpack] at hc;cases hq:t.zke with
  |true=>simp only [hq,cond_true,SV.cells] at hc;exact hl c hc
  |false=>
   simp only [hq,cond_false] at hc;split at hc
   ·rename_i c0 he;rw [he] at hl;simp only [SV.cells] at hc;exact hl c hc
   ·exact hl c hc
 |n e t=>intro c hc;simp only [Kd.unpack,SV.cells,List.mem_singleton] at hc;subst hc;trivial
 |p t=>intro c hc;simp only [Kd.unpack,SV.cells,List.mem_singleton] at hc;subst hc;trivial
 |b t tid own=>intro c hc;simp only [Kd.unpack,SV.cells,List.mem_singleton] at hc;subst hc;trivial
 |f=>intro c hc;simp only [Kd.unpack,SV.cells,List.mem_singleton] at hc;subst hc;trivial
theorem zsp {names:List Nat} {d:Nat}:∀{j:Nat} {ks:List Kd} (x:Tup ks),(∀m∈ownNames d j ks,m∈names)→∀s∈zkg d j ks x,∀c∈s.cells,yxx names c
 |j,[],x,h,s,hs,c,hc=>by cases hs
 |j,[k],x,h,s,hs,c,hc=>by simp only [zkg,List.mem_singleton] at hs;subst hs;exact qmh (fun q hq=>h _ (List.mem_append_left _ (List.mem_map.2 ⟨q,hq,rfl⟩))) x c hc
 |j,k::k'::ks,x,h,s,hs,c,hc=>by
  simp only [zkg,List.mem_cons] at hs;rcases hs with rfl|hs
  ·exact qmh (fun q hq=>h _ (List.mem_append_left _ (List.mem_map.2 ⟨q,hq,rfl⟩))) x.1 c hc
  ·exact zsp (ks:=k'::ks) x.2 (fun m hm=>h m (List.mem_append_right _ hm)) s hs c hc
theorem yfn {d:Nat} {ks:List Kd} {x:Tup ks} {p:PC→Prop} (h:∀s∈zkg d 0 ks x,∀c∈s.cells,p c):(yau d ks x).all p:=by
 unfold yau;split
 ·trivial
 ·rename_i s he;rw [he] at h;exact fun c hc=>h s (List.mem_singleton.2 rfl) c hc
 ·exact fun s hs c hc=>h s hs c hc
def ydn:PC→Prop
 | .bool _| .int _ _| .str _=>True
 | .fnv q=>q.caps=[]
 |_=>False
theorem ydn.move {F F':Nat→Prop} {A A':Fr} {w w':World} {c:PC} {v:Value} (hf:ydn c) (h:RC F A w c v):RC F' A' w' c v:=by
 cases c with
 |bool b=>exact h
 |int k n=>exact h
 |str s=>exact h
 |fnv q=>have hq:q.caps=[]:=hf;obtain ⟨vs,rfl,hv⟩:=h;rw [hq] at hv;cases hv;exact ⟨[],rfl,by rw [hq];exact .nil⟩
 |_=>exact hf.elim
theorem qpz:∀(t:Ty) (x:t.den),t.flat=true→∀c∈t.toPC x,ydn c
 | .bool,x,_,c,hc=>by rw [List.mem_singleton.1 hc];trivial
 | .int _,x,_,c,hc=>by rw [List.mem_singleton.1 hc];trivial
 | .str,x,_,c,hc=>by rw [List.mem_singleton.1 hc];trivial
 | .fn,x,_,c,hc=>by rw [List.mem_singleton.1 hc];exact rfl
 | .slice _ _,x,hf,c,hc=>by cases hf
 | .pair a b,x,hf,c,hc=>by
   simp only [Ty.flat,Bool.and_eq_true] at hf;rcases List.mem_append.1 hc with hc|hc
   ·exact qpz a _ hf.1 c hc
   ·exact qpz b _ hf.2 c hc
theorem qxz (own:List Nat) (slot j:Nat):∀(k:Nat) (cs:List PC),(∀c∈cs,ydn c)→zti own slot j k cs=cs
 |_,[],_=>rfl
 |k,c0::r,h=>by
  have h0:=h c0 (List.mem_cons_self ..);have hr:=qxz own slot j (k+1) r fun c hc=>h c (List.mem_cons_of_mem _ hc)
  cases c0 with
  |slice e t xs g=>exact h0.elim
  |_=>simp only [zti,hr]
theorem zxx {slot j:Nat} {k:Kd} (hk:k.qcm=true) (x:k.den):∀c∈(k.unpack slot j x).cells,ydn c:=by
 cases k with
 |v t own=>
  have hf:t.flat=true:=hk;have hl:=qpz t x hf;have he:=qxz own slot j 0 (t.toPC x) hl;intro c hc;simp only [Kd.unpack,he] at hc;cases hq:t.zke with
  |true=>simp only [hq,cond_true,SV.cells] at hc;exact hl c hc
  |false=>
   simp only [hq,cond_false] at hc;split at hc
   ·rename_i c0 he2;rw [he2] at hl;exact hl c hc
   ·exact hl c hc
 |_=>cases hk
theorem qeo {d:Nat}:∀{j:Nat} {ks:List Kd} (x:Tup ks),ks.all Kd.qcm=true→∀s∈zkg d j ks x,∀c∈s.cells,ydn c
 |j,[],x,h,s,hs,c,hc=>by cases hs
 |j,[k],x,h,s,hs,c,hc=>by simp only [zkg,List.mem_singleton] at hs;subst hs;simp only [List.all_cons,Bool.and_eq_true] at h;exact zxx h.1 x c hc
 |j,k::k'::ks,x,h,s,hs,c,hc=>by
  simp only [zkg,List.mem_cons] at hs;rw [List.all_cons,Bool.and_eq_true] at h;rcases hs with rfl|hs
  ·exact zxx h.1 x.1 c hc
  ·exact qeo (ks:=k'::ks) x.2 h.2 s hs c hc
theorem RS.imp {F F':Nat→Prop} {A A':Fr} {w w':World} {s:SV} {v:Value} (hi:∀c∈s.cells,∀v,RC F A w c v→RC F' A' w' c v) (h:RS F A w s v):RS F' A' w' s v:=by
 cases s with
 |one c=>exact hi c (List.mem_singleton.2 rfl) v h
 |agg cs=>obtain ⟨vs,rfl,h⟩:=h;exact ⟨vs,rfl,zhn h fun c v hc hr=>hi c hc v hr⟩
theorem RP.imp {F F':Nat→Prop} {A A':Fr} {w w':World} {p:PV} {v:Value} (hi:p.all fun c=>∀v,RC F A w c v→RC F' A' w' c v) (h:RP F A w p v):RP F' A' w' p v:=by
 cases p with
 |undef=>trivial
 |void=>exact h
 |sv s=>exact RS.imp hi h
 |tup l=>obtain ⟨vs,rfl,h⟩:=h;exact ⟨vs,rfl,zhn h fun s v hs hr=>RS.imp (hi s hs) hr⟩
end
def zbc (P:Program) (f:Nat):Prop:=∃fn,P.funcs[f]? =some fn∧(fn.name== "runtime.NumGoroutine")=false∧fn.body.isNone=false
def qaq (P:Program) (E:Env) (run:Runs E):Prop:=∀f x r,run f x=some r→zbc P f∧zdw P E f x r
section
variable {X:Ctx} {run:Runs X.E} {o:Oper} {σ σ':St}
theorem ywo {f:Nat} (hf:zbc X.P f) (args:Array Value) (w:World):(callFunc f args).run X.P w= .ok (.enter f args) w:=by
 obtain ⟨fn,h1,h2,h3⟩:=hf;have h2':¬fn.name= "runtime.NumGoroutine" :=by simpa using h2
 have h3':¬fn.body=none:=by cases hb:fn.body<;>simp_all
 simp [callFunc,h1,h2',h3']
theorem qun {A:Fr} {tm:Array Value} {w:World} (hi:Inv X A σ tm w) {ks:List Kd} {args:List SV} {x:Tup ks} {H:Hand} {vs:List Value} (hh:handed σ (zll 0 ks) args=some H) (hrb:H.rb=[]) (hp:zdl σ ks args=some x) (hv:All2 (RS (X.F A) A w) args vs):
 H.OK∧xfs X.E (H.F0 X A) (H.G A) (H.fr A) w ks x vs:=by
 unfold handed at hh;split at hh
 ·rename_i H' hH';cases hok:H'.ok with
  |false=>simp [hok] at hh
  |true=>
   simp only [hok,cond_true,Option.some.injEq] at hh;subst hh;have hOK:=Hand.yvf hok;have hbx:∀d,(H'.fr A).bx d=none:=fun d=>by simp [Hand.fr,hrb,yck]
   have hF0:∀b,H'.F0 X A b→X.F A b:=fun b hb=>by
    rcases hb with hb|⟨d,hb,_⟩|⟨n,l,hb,_⟩
    ·exact .inl hb
    ·exact .inr (.inl ⟨d,hb⟩)
    ·exact .inr (.inr ⟨n,l,hb⟩)
   have hsub:∀b,(H'.fr A).F (H'.F0 X A) b→X.F A b:=fun b hb=>by
    rcases hb with hb|⟨d,hb⟩|⟨m,l,hb⟩
    ·exact hF0 b hb
    ·rw [hbx] at hb;cases hb
    ·obtain ⟨n,_,h2⟩:=zzm hb;exact .inr (.inr ⟨n,l,h2⟩)
   have hf:Fits X A w H' ((H'.fr A).F (H'.F0 X A)):=by
    refine ⟨⟨fun _ _ _=>rfl,fun b hb=>.inl (hsub b hb)⟩,fun m hm b l hb=> ?_,fun d hd b hb=> ?_⟩
    ·rintro ((hf|⟨d,hf,_⟩|⟨n,l',hf,_,hn⟩)|⟨d,hf⟩|⟨m',l',hf⟩)
     ·exact hi.good.f0m (hi.good.tgm m b l hb).1 hf
     ·exact hi.good.bt d m b l hf hb
     ·exact hn (hi.good.tgi m n b l l' hb hf▸hm)
     ·rw [hbx] at hf;cases hf
     ·obtain ⟨n,h1,h2⟩:=zzm hf;have:=hi.good.tgi n m b l' l h2 hb;subst this;exact hOK.pl n hm (yav h1)
    ·rintro ((hf|⟨d',hf,hn⟩|⟨n,l',hf,_⟩)|⟨d',hf⟩|⟨m',l',hf⟩)
     ·exact hi.good.f0m (hi.good.bxm d b hb).1 hf
     ·exact hn (hi.good.bxi d d' b hb hf▸hd)
     ·exact hi.good.bt d n b l' hb hf
     ·rw [hbx] at hf;cases hf
     ·obtain ⟨n,h1,h2⟩:=zzm hf;exact hi.good.bt d n b l' hb h2
   refine ⟨hOK,qyp hi hOK hf hH' (.refl _) hp hv,hbx,fun n b l hb=> ?_,fun n n' b l l' h1 h2=> ?_,fun b hb=>⟨?_,?_⟩,hi.glob.step hf.step⟩
   ·obtain ⟨s,h1,h2⟩:=zzm hb;exact ⟨⟨s,l,yav h1,h2⟩,(hi.good.tgm s b l h2).2⟩
   ·obtain ⟨s,k1,k2⟩:=zzm h1;obtain ⟨s',k3,k4⟩:=zzm h2;have:=hi.good.tgi s s' b l l' k2 k4;subst this;exact qby hOK.src k1 k3
   ·rcases hb with hb|⟨d,hb,_⟩|⟨n,l,hb,_⟩
    ·exact Nat.lt_of_lt_of_le (hi.good.f0 b hb).1 hi.kept.size
    ·exact (hi.good.bxm d b hb).2
    ·exact (hi.good.tgm n b l hb).2
   ·rintro ⟨n,l,hn,hb'⟩;rcases hb with hb|⟨d,hb,_⟩|⟨n',l',hb,hn',_⟩
    ·exact hi.good.f0m (hi.good.tgm n b l hb').1 hb
    ·exact hi.good.bt d n b l hb hb'
    ·exact hn' (hi.good.tgi n n' b l l' hb' hb▸hn)
 ·cases hh
theorem ylt {F:Nat→Prop} {A:Fr} {w:World} {c:Cap} {v:Value} (h:RCap F w c v):RS F A w (qkg c) v:=by
 unfold RCap at h;unfold qkg;cases hp:c.ptr with
 |true=>simp only [hp] at h ⊢;exact h
 |false=>
  simp only [hp] at h ⊢;have hc:=h.toPC (A:=A);have hl:=zsm (slot:=0) (j:=0) (k:=0) (c.t.toPC c.x);simp only [cond_false,Kd.unpack,hl];have hlen:=h.length;simp only [List.length_singleton] at hlen;cases hq:c.t.zke with
  |true=>
   exfalso;cases ht:c.t with
   |pair a b=>rw [ht] at hlen;have:=Ty.zpw a;have:=Ty.zpw b;simp only [Ty.sz] at hlen;omega
   |_=>rw [ht] at hq;cases hq
  |false=>
   simp only [cond_false];generalize c.t.toPC c.x=L at hc;cases hc with
   |cons h0 ht=>cases ht;exact h0
theorem qpo {F:Nat→Prop} {A:Fr} {w:World}:∀{l:List Cap} {vs:List Value},All2 (RCap F w) l vs→All2 (RS F A w) (l.map qkg) vs
 |_,_,.nil=>.nil
 |_,_,.cons h0 h=>.cons (ylt h0) (qpo h)
theorem qsl {F:Nat→Prop} {A:Fr} {w:World} {u:Ty} {x:u.den} {cs:List Value} (h:Cl F w u x cs):RS F A w (zep u x) (if u.zke then .agg cs.toArray else cs.headD undef):=by
 have hc:=h.toPC (A:=A);have hl:=zsm (slot:=0) (j:=0) (k:=0) (u.toPC x);simp only [zep,Kd.unpack,hl];cases hq:u.zke with
 |true=>simp only [cond_true,if_true];exact ⟨cs,rfl,hc⟩
 |false=>
  simp only [cond_false];have hlen:=h.length;have hs:u.sz=1:=by cases u with
   |pair a b=>cases hq
   |_=>rfl
  rw [hs] at hlen
  match cs,hlen with
  |[v],_=>
   generalize u.toPC x=L at hc;cases hc with
   |cons h0 ht=>cases ht;exact h0
def uval (u:Ty) (cs:List Value):Value:=if u.zke then .agg cs.toArray else cs.headD undef
def ymh (P:Program) (E:Env) (F:Nat→Prop) (w:World) (u:Ty) (c:Nat) (cvs:List Value) {R:Type} (mk:R→Value) (cf:u.den→u.den→R) (xs:List u.den):Prop:=
 ∀(W:World) (x y:u.den) (cx cy:List Value),x∈xs→y∈xs→Step F F w W→w.heap.size≤W.heap.size→Cl F W u x cx→Cl F W u y cy→
  Calls P c (#[uval u cx,uval u cy]++cvs.toArray) W fun en W'=>en= .returned (mk (cf x y))∧Kept (fun _=>False) W W'
def ymg {α:Type} (cf:α→α→Int) (xs:List α):Prop:=
 ∀x∈xs,¬cf x x<0∧∀y∈xs,(cf x y<0∨cf y x<0∨x=y)∧∀z∈xs,(cf x y<0→cf y z<0→cf x z<0)∧(¬cf x y<0→¬cf y z<0→¬cf x z<0)
def qlh {α:Type} (cf:α→α→Int) (xs:List α):List α:=xs.mergeSort fun x y=> !decide (cf y x<0)
structure ztq (P:Program) (E:Env) (f:Nat) (b:Bool) (e:TypeId) (u:Ty):Prop where
 call:zbc P f
 none:∀(a:Option Addr) (cap:Nat) (fv:Value) (w:World),Calls P f #[.slice a 0 cap,fv] w fun en w'=>en= .returned (if b then .slice a 0 cap else .tuple #[])∧w'=w
 sort:b=false→∀{F:Nat→Prop} {w:World} {xs:List u.den} {g l:Nat} {v:Value} {c:Nat} {cvs:List Value} {cf:u.den→u.den→Int},
  ymg cf xs→xs≠[]→xs.length≤4611686018427387903→zbc P c→OwnAt F w e u xs g l v→F g→ymh P E F w u c cvs (.int .i64) cf xs→
  Calls P f #[v,.func (.func c) #[] cvs.toArray] w fun en w'=>en= .returned (.tuple #[])∧Kept (fun k=>k=g) w w'∧OwnAt F w' e u (qlh cf xs) g l v
 compact:b=true→∀{F:Nat→Prop} {w:World} {xs:List u.den} {g l:Nat} {v:Value} {c:Nat} {cvs:List Value} {ef:u.den→u.den→Bool},
  xs≠[]→zbc P c→OwnAt F w e u xs g l v→F g→ymh P E F w u c cvs .bool ef xs→
  Calls P f #[v,.func (.func c) #[] cvs.toArray] w fun en w'=>∃v',en= .returned v'∧Kept (fun k=>k=g) w w'∧OwnAt F w' e u (zaf ef xs) g (zaf ef xs).length v'
structure yop (P:Program) (f:Nat) (e:TypeId) (u:Ty):Prop where
 call:zbc P f
 none:∀(a:Option Addr) (cap:Nat) (w:World),Calls P f #[.slice a 0 cap] w fun en w'=>en= .returned (.tuple #[])∧w'=w
 rev:∀{F:Nat→Prop} {w:World} {xs:List u.den} {g l:Nat} {v:Value},xs≠[]→OwnAt F w e u xs g l v→F g→
  Calls P f #[v] w fun en w'=>en= .returned (.tuple #[])∧Kept (fun k=>k=g) w w'∧OwnAt F w' e u xs.reverse g l v
theorem yoi:∀{u:Ty} {x y:u.den},eqT u x y=true→x=y
 | .bool,x,y,h=>by simpa [eqT] using h
 | .int _,x,y,h=>by simpa [eqT] using h
 | .str,⟨⟨x⟩⟩,⟨⟨y⟩⟩,h=>by have h':x=y:=of_decide_eq_true h;rw [h']
 | .fn,x,y,h=>Nat.eq_of_beq_eq_true h
 | .slice e t,xs,ys,h=>by
   simp only [eqT,Bool.and_eq_true] at h;have hl:=Nat.eq_of_beq_eq_true h.1;have h2:=h.2;clear h
   induction xs generalizing ys with
   |nil=>cases ys with|nil=>rfl|cons y r=>simp at hl
   |cons x r ih=>cases ys with
    |nil=>simp at hl
    |cons y s=>simp only [List.zip_cons_cons,List.all_cons,Bool.and_eq_true] at h2;rw [yoi h2.1,ih s (by simpa using hl) h2.2]
 | .pair a b,x,y,h=>by simp only [eqT,Bool.and_eq_true] at h;obtain ⟨x1,x2⟩:=x;obtain ⟨y1,y2⟩:=y;have h1:x1=y1:=yoi h.1;have h2:x2=y2:=yoi h.2;rw [h1,h2]
theorem qfx {u:Ty} {cf:u.den→u.den→Option Int} {xs ys:List u.den} (h:zly u cf xs=some ys):
 (∀x∈xs,∀y∈xs,cf x y=some ((cf x y).getD 0))∧ymg (fun x y=>(cf x y).getD 0) xs∧ys=qlh (fun x y=>(cf x y).getD 0) xs∧xs.length≤4611686018427387903:=by
 unfold zly at h;cases hlen:decide (xs.length≤4611686018427387903) with
 |false=>rw [hlen] at h;cases h
 |true=>
 simp only [hlen,Bool.true_and] at h;cases ho:ygp u cf xs with
 |false=>rw [ho] at h;cases h
 |true=>
  rw [ho] at h;simp only [cond_true,Option.some.injEq] at h;unfold ygp at ho;simp only [List.all_eq_true,Bool.and_eq_true,Bool.or_eq_true,Bool.not_eq_true',Bool.and_eq_false_imp] at ho;have hs:∀x∈xs,∀y∈xs,cf x y=some ((cf x y).getD 0):=fun x hx y hy=>by obtain ⟨n,hn⟩:=Option.isSome_iff_exists.1 ((ho x hx).2 y hy).1;rw [hn];rfl
  have hlt:∀x∈xs,∀y∈xs,ltO cf x y=decide ((cf x y).getD 0<0):=fun x hx y hy=>by unfold ltO;rw [hs x hx y hy];rfl
  refine ⟨hs,fun x hx=>⟨?_,fun y hy=>⟨?_,fun z hz=>⟨fun h1 h2=> ?_,fun h1 h2=> ?_⟩⟩⟩,?_,of_decide_eq_true hlen⟩
  ·have:=(ho x hx).1;rw [hlt x hx x hx] at this
   simpa using this
  ·rcases ((ho x hx).2 y hy).2.1 with h|h|h
   ·rw [hlt x hx y hy] at h;exact .inl (by simpa using h)
   ·rw [hlt y hy x hx] at h;exact .inr (.inl (by simpa using h))
   ·exact .inr (.inr (yoi h))
  ·have:=(((ho x hx).2 y hy).2.2 z hz).1;rw [hlt x hx y hy,hlt y hy z hz,hlt x hx z hz] at this;simp only [decide_eq_true_eq] at h1 h2 this ⊢;rcases this with h|h
   ·exact absurd h2 (by simpa using h h1)
   ·simpa using h
  ·have:=(((ho x hx).2 y hy).2.2 z hz).2;rw [hlt x hx y hy,hlt y hy z hz,hlt x hx z hz] at this;simp only [decide_eq_true_eq,decide_eq_false_iff_not] at h1 h2 this ⊢;rcases this with h|h|h
   ·exact absurd h h1
   ·exact absurd h h2
   ·exact h
  ·rw [←h];unfold qlh;have hm:=List.map_mergeSort (r:=fun x y=> !ltO cf y x) (s:=fun x y=> !decide ((cf y x).getD 0<0)) (f:=id) (l:=xs) fun x hx y hy=>by rw [hlt y hy x hx];rfl
   simpa using hm
theorem zwc {α:Type} {eq:α→α→Option Bool} {xs ys:List α} (h:zdg eq xs=some ys):
 (∀x∈xs,∀y∈xs,eq x y=some ((eq x y).getD false))∧ys=zaf (fun x y=>(eq x y).getD false) xs:=by
 unfold zdg at h;cases ho:xs.all fun x=>xs.all fun y=>(eq x y).isSome with
 |false=>rw [ho] at h;cases h
 |true=>rw [ho] at h;simp only [cond_true,Option.some.injEq] at h;simp only [List.all_eq_true] at ho;refine ⟨fun x hx y hy=> ?_,h.symm⟩;obtain ⟨n,hn⟩:=Option.isSome_iff_exists.1 (ho x hx y hy);rw [hn];rfl
theorem qnm {P:Program} {E:Env} {run:Runs E} (hR:qaq P E run) {c:Nat} {caps:List Cap} {args:List SV} {t:Ty} {r:t.den} (hr:zeg E run ⟨c,caps⟩ args t=some r):zbc P c:=by
 unfold zeg at hr;cases hio:(E.sig c).io with
 |true=>simp [hio] at hr
 |false=>
  simp only [hio,cond_false] at hr;split at hr
  ·rename_i z H hp hh;cases hcd:(H.rb.isEmpty&&H.srcs.isEmpty) with
   |false=>simp [hcd] at hr
   |true=>simp only [hcd,cond_true,Option.bind_eq_some_iff] at hr;obtain ⟨rr,hrun',_⟩:=hr;exact (hR c z rr hrun').1
  ·cases hr
theorem ywv {P:Program} {E:Env} {run:Runs E} (hR:qaq P E run) {c:Nat} {caps:List Cap} {cvs:List Value} {t:Ty} (hflat:t.flat=true) {F:Nat→Prop} {W:World} {u:Ty} {x y:u.den} {cx cy:List Value} {r:t.den}
 (h:zeg E run ⟨c,caps⟩ [zep u x,zep u y] t=some r) (hF:∀b,F b→b<W.heap.size) (hg:zfe E F W) (hx:Cl F W u x cx) (hy:Cl F W u y cy) (hc:All2 (RCap F W) caps cvs):
 zbc P c∧Calls P c (#[uval u cx,uval u cy]++cvs.toArray) W fun en W'=>∃rv,en= .returned rv∧Kept (fun _=>False) W W'∧RS F ⟨fun _=>none,fun _=>none⟩ W' (zep t r) rv:=by
 unfold zeg at h;cases hio:(E.sig c).io with
 |true=>simp [hio] at h
 |false=>
  simp only [hio,cond_false] at h;split at h
  ·rename_i z H hp hh;cases hcd:(H.rb.isEmpty&&H.srcs.isEmpty) with
   |false=>simp [hcd] at h
   |true=>
    simp only [hcd,cond_true,Option.bind_eq_some_iff] at h;obtain ⟨rr,hrun,hcast⟩:=h;simp only [Bool.and_eq_true,List.isEmpty_iff] at hcd;obtain ⟨hrb,hsrc⟩:=hcd;obtain ⟨hcall,hcon⟩:=hR c z rr hrun;refine ⟨hcall,?_⟩
    let X:Ctx:={P:=P,E:=E,W:=W,G:=fun _=>False,F0:=F,n:=0}
    let A:Fr:=⟨fun _=>none,fun _=>none⟩
    have hXF:∀b,X.F A b→F b:=fun b hb=>by
     rcases hb with hb|⟨d,hb⟩|⟨n,l,hb⟩
     ·exact hb
     ·cases hb
     ·cases hb
    have hXF':∀b,F b→X.F A b:=fun b hb=>.inl hb
    have S:Step F (X.F A) W W:=⟨fun _ _ _=>rfl,fun b hb=>.inl (hXF b hb)⟩;have hi0:Inv X A ⟨[],[]⟩ #[] W:=⟨rfl,Kept.refl _ _,hg.step S,fun i=>trivial,fun d tid cs hd=>by simp [getB] at hd,
     ⟨fun d b h=>(by cases h),fun n b l h=>(by cases h),fun d d' b h=>(by cases h),fun n n' b l l' h=>(by cases h),fun d n b l h=>(by cases h),fun b hb=>⟨hF b hb,fun h=>h⟩⟩,fun p hp=>by cases hp⟩
    have hvs:All2 (RS (X.F A) A W) ([zep u x,zep u y]++caps.map qkg) ([uval u cx,uval u cy]++cvs):=
     All2.append (.cons (qsl (hx.step S)) (.cons (qsl (hy.step S)) .nil)) (qpo (zhn hc fun a b _ hr=>hr.step S))
    obtain ⟨hOK,hA⟩:=qun hi0 hh hrb hp hvs;have hcl:=hcon W _ _ _ _ hA;rw [show (#[uval u cx,uval u cy]++cvs.toArray)=([uval u cx,uval u cy]++cvs).toArray by simp];refine hcl.mono fun en W' ⟨v,he,hk,hres⟩=>⟨v,he,⟨hk.os,hk.tape,hk.output,hk.size,fun k hlt _=>hk.block k hlt ?_,hk.drawn⟩,?_⟩
    ·rintro ⟨n,l,hn,_⟩;rw [hsrc] at hn;cases hn
    ·obtain ⟨T,hT⟩:=hres 0;have key:∀{ks:List Kd} {rr:Tup ks},qud t ks rr=some r→∀{F:Nat→Prop} {B:Fr},RP F B W' (yau 0 ks rr) v→RP F B W' (.sv (zep t r)) v:=by
      intro ks rr hcast F B hrel;unfold qud at hcast;split at hcast
      ·rename_i t' x';split at hcast
       ·rename_i ht;subst ht;cases hcast;exact hrel
       ·cases hcast
      ·cases hcast
     exact RS.imp (fun c hc v=>ydn.move (zxx (k:=.v t []) hflat r c hc)) (key hcast hT.rel)
  ·cases h
end
theorem zsc:∀{own:List Nat} {slot j k:Nat} {cs:List PC} {h h':Hand},zbx own slot j k cs h=some h'→(∀m∈zdk cs,m∈h'.pl∨m∈h'.srcs)∧h'.pm=h.pm∧∀m∈h'.pl,m∈h.pl∨m∈zdk cs
 |own,slot,j,k,[],h,h',e=>by simp only [zbx,Option.some.injEq] at e;subst e;exact ⟨fun m hm=>by simp [zdk] at hm,rfl,fun m hm=>.inl hm⟩
 |own,slot,j,k,c::r,h,h',e=>by
  have cons:∀{g:Hand},zbx own slot j (k+1) r g=some h'→(∀m∈c.tag,m∈h'.pl∨m∈h'.srcs)→g.pm=h.pm→(∀m∈g.pl,m∈h.pl∨m∈c.tag)→(∀m∈zdk (c::r),m∈h'.pl∨m∈h'.srcs)∧h'.pm=h.pm∧∀m∈h'.pl,m∈h.pl∨m∈zdk (c::r):=fun he hc hp hq=>by
   obtain ⟨h1,h2,h3⟩:=zsc he;refine ⟨fun m hm=> ?_,h2.trans hp,fun m hm=>by
    simp only [zdk,List.flatMap_cons,List.mem_append];rcases h3 m hm with hm|hm
    ·rcases hq m hm with hm|hm
     ·exact .inl hm
     ·exact .inr (.inl hm)
    ·exact .inr (.inr hm)⟩
   simp only [zdk,List.flatMap_cons,List.mem_append] at hm;rcases hm with hm|hm
   ·exact hc m hm
   ·exact h1 m hm
  cases c with
  |slice e1 t xs g=>
   simp only [zbx] at e;cases hm:mem own k with
   |true=>
    simp only [hm,cond_true] at e;cases g with
    |own n=>
     refine cons e (fun m hm=> ?_) rfl fun m hm=>.inl hm
     simp only [PC.tag,List.mem_singleton] at hm;subst hm;exact .inr (List.mem_filterMap.2 ⟨_,(zbs e).ren _ (List.mem_cons_self ..),rfl⟩)
    |nil=>exact cons e (fun m hm=>by simp [PC.tag] at hm) rfl fun m hm=>.inl hm
    |_=>cases e
   |false=>
    simp only [hm,cond_false] at e;refine cons e (fun m hm=> ?_) rfl (fun m hm=>by
     rcases List.mem_append.1 hm with hm|hm
     ·refine .inr ?_;cases g<;>simp [Tag.names,PC.tag] at hm ⊢;exact hm
     ·exact .inl hm)
    cases g with
    |own n=>simp only [PC.tag,List.mem_singleton] at hm;subst hm;exact .inl ((zbs e).pl _ (by simp [Tag.names]))
    |_=>simp [PC.tag] at hm
  |nilS=>
   simp only [zbx] at e;cases hm:mem own k with
   |true=>simp only [hm,cond_true] at e;exact cons e (fun m hm=>by simp [PC.tag] at hm) rfl fun m hm=>.inl hm
   |false=>simp only [hm,cond_false] at e;exact cons e (fun m hm=>by simp [PC.tag] at hm) rfl fun m hm=>.inl hm
  |_=>simp only [zbx] at e;exact cons e (fun m hm=>by simp [PC.tag] at hm) rfl fun m hm=>.inl hm
theorem ywi {k:Kd} {slot j:Nat} {s:SV} {x:k.den} {h h':Hand} (hp:k.pack ⟨[],[]⟩ s=some x) (hh:k.hand ⟨[],[]⟩ slot j s h=some h'):(∀m∈zdk s.cells,m∈h'.pl∨m∈h'.srcs)∧h'.pm=h.pm∧h.Sub h'∧∀m∈h'.pl,m∈h.pl∨m∈zdk s.cells:=by
 cases k with
 |v t own=>simp only [Kd.hand] at hh;exact ⟨(zsc hh).1,(zsc hh).2.1,zbs hh,(zsc hh).2.2⟩
 |n e t=>
  have e1:h'=h:=by cases s<;>(simp only [Kd.hand,Option.some.injEq] at hh;exact hh.symm)
  subst e1;refine ⟨fun m hm=> ?_,rfl,.refl _,fun m hm=>.inl hm⟩;cases s with
  |agg cs=>simp [Kd.pack] at hp
  |one c=>
   cases c with
   |slice e' t' xs g=>
    cases g with
    |own n=>simp [Kd.pack] at hp
    |_=>simp [SV.cells,zdk,PC.tag] at hm
   |_=>simp [SV.cells,zdk,PC.tag] at hm
 |p t=>
  cases s with
  |agg cs=>simp [Kd.pack] at hp
  |one c=>
   cases c with
   |elem t' y=>simp only [Kd.hand,Option.some.injEq] at hh;subst hh;exact ⟨fun m hm=>by simp [SV.cells,zdk,PC.tag] at hm,rfl,.refl _,fun m hm=>.inl hm⟩
   |box d o=>simp [Kd.pack,getB] at hp
   |_=>simp [Kd.pack] at hp
 |b t tid own=>
  cases s with
  |agg cs=>simp [Kd.pack] at hp
  |one c=>
   cases c with
   |box d o=>cases o<;>simp [Kd.pack,getB] at hp
   |_=>simp [Kd.pack] at hp
 |f=>
  have e1:h'=h:=by cases s<;>(simp only [Kd.hand,Option.some.injEq] at hh;exact hh.symm)
  subst e1;refine ⟨fun m hm=> ?_,rfl,.refl _,fun m hm=>.inl hm⟩;cases s with
  |agg cs=>simp [Kd.pack] at hp
  |one c=>
   cases c with
   |slice e' t' xs g=>simp [Kd.pack] at hp
   |_=>simp [SV.cells,zdk,PC.tag] at hm
theorem Hand.Sub.srcs {h h':Hand} (hs:h.Sub h'):∀m∈h.srcs,m∈h'.srcs:=fun m hm=>by obtain ⟨q,hq,he⟩:=List.mem_filterMap.1 hm;exact List.mem_filterMap.2 ⟨q,hs.ren _ hq,he⟩
theorem qnj:∀{ks:List Kd} {i:Nat} {l:List SV} {x:Tup ks} {h h':Hand},zdl ⟨[],[]⟩ ks l=some x→zef ⟨[],[]⟩ (zll i ks) l h=some h'→(∀m∈l.flatMap (fun s=>zdk s.cells),m∈h'.pl∨m∈h'.srcs)∧(h'.pm=h.pm)∧∀m∈h'.pl,m∈h.pl∨m∈l.flatMap (fun s=>zdk s.cells)
 |[],i,[],x,h,h',hp,hh=>by simp only [zll,zef,Option.some.injEq] at hh;subst hh;refine ⟨fun m hm=>(by cases hm),rfl,fun m hm=>Or.inl hm⟩
 |[],i,s::l,x,h,h',hp,hh=>by cases hp
 |k::ks,i,[],x,h,h',hp,hh=>by cases ks<;>cases hp
 |k::ks,i,s::l,x,h,h',hp,hh=>by
  have hk:∃y,k.pack ⟨[],[]⟩ s=some y:=by
   cases ks with
   |nil=>cases l with
    |nil=>exact ⟨_,hp⟩
    |cons _ _=>cases hp
   |cons k' ks=>
    simp only [zdl] at hp;split at hp
    ·exact ⟨_,‹_›⟩
    ·cases hp
  have hr:∃y:Tup ks,zdl ⟨[],[]⟩ ks l=some y:=by
   cases ks with
   |nil=>cases l with
    |nil=>exact ⟨(),rfl⟩
    |cons _ _=>cases hp
   |cons k' ks=>
    simp only [zdl] at hp;split at hp
    ·exact ⟨_,‹_›⟩
    ·cases hp
  obtain ⟨y,hy⟩:=hk;obtain ⟨z,hz⟩:=hr;simp only [zll,zef] at hh;split at hh
  ·rename_i h1 he;obtain ⟨a1,a2,a3,a4⟩:=ywi hy he;obtain ⟨b1,b2,b3⟩:=qnj hz hh;have hs:=zpe hh;refine ⟨fun m hm=> ?_,b2.trans a2,fun m hm=>by
    simp only [List.flatMap_cons,List.mem_append];rcases b3 m hm with hm|hm
    ·rcases a4 m hm with hm|hm
     ·exact .inl hm
     ·exact .inr (.inl hm)
    ·exact .inr (.inr hm)⟩
   simp only [List.flatMap_cons,List.mem_append] at hm;rcases hm with hm|hm
   ·rcases a1 m hm with h2|h2
    ·exact .inl (hs.pl _ h2)
    ·exact .inr (hs.srcs _ h2)
   ·exact b1 m hm
  ·cases hh
theorem ylc {ks:List Kd} {l:List SV} {x:Tup ks} {H:Hand} (hp:zdl ⟨[],[]⟩ ks l=some x) (hh:handed ⟨[],[]⟩ (zll 0 ks) l=some H) (hs:H.srcs=[]):(∀m∈l.flatMap (fun s=>zdk s.cells),m∈H.pl)∧H.pm=[]∧∀m∈H.pl,m∈l.flatMap (fun s=>zdk s.cells):=by
 unfold handed at hh;split at hh
 ·rename_i h' he;cases hok:h'.ok with
  |false=>simp [hok] at hh
  |true=>simp only [hok,cond_true,Option.some.injEq] at hh;subst hh;obtain ⟨h1,h2,h3⟩:=qnj hp he;refine ⟨fun m hm=>(h1 m hm).resolve_right (by rw [hs];simp),h2,fun m hm=>(h3 m hm).resolve_left (by simp)⟩
 ·cases hh
theorem yra (c:Cap):zdk (qkg c).cells=[]:=by
 have go:∀(u:Ty) (x:u.den),zdk (u.toPC x)=[]:=fun u=>by
  induction u with
  |pair a b ha hb=>exact fun x=>by simp only [Ty.toPC,zdk,List.flatMap_append];exact List.append_eq_nil_iff.2 ⟨ha x.1,hb x.2⟩
  |_=>exact fun x=>rfl
 have lf:∀(k:Nat) (cs:List PC),zti [] 0 0 k cs=cs:=fun k cs=>by
  induction cs generalizing k with
  |nil=>rfl
  |cons c cs ih=>cases c<;>simp [zti,mem,ih]
 unfold qkg;cases c.ptr with
 |true=>rfl
 |false=>
  simp only [cond_false,Kd.unpack,lf];cases h:c.t.zke with
  |true=>simp only [cond_true,SV.cells];exact go _ _
  |false=>
   simp only [cond_false];have:=go c.t c.x;generalize c.t.toPC c.x=cs at this
   match cs,this with
   |[],h=>exact h
   |[c],h=>exact h
   |c::d::r,h=>exact h
section
variable {X:Ctx} {run:Runs X.E} {o:Oper} {σ σ':St}
def yij (P:Program) (E:Env):Prop:=∀f b e u,E.rows f=some (b,e,u)→ztq P E f b e u
theorem yqf {F F':Nat→Prop} {w:World} {e e':TypeId} {u:Ty} {xs xs':List u.den} {g l:Nat} {v v':Value} (h:OwnAt F w e u xs g l v) (h':OwnAt F' w e' u xs' g l v'):e'=e∧v'=v∧xs'.length=xs.length:=by obtain ⟨hl,cap,cur,rfl,hh,_,_,h3,_⟩:=h;obtain ⟨hl',cap',cur',rfl,hh',_,_,h3',_⟩:=h';rw [hh] at hh';cases hh';have hc:cap'=cap:=Nat.eq_of_mul_eq_mul_right (Ty.zpw u) (h3'.symm.trans h3);exact ⟨rfl,by rw [hc,←hl,←hl'],by rw [←hl,←hl']⟩
theorem Inv.setRows {A:Fr} {tm:Array Value} {w w':World} (h:Inv X A σ tm w) {g:Nat} {u:Ty} {ys:List u.den} (hk:Kept (fun k=>∃l,A.tg g=some (k,l)) w w')
 (hrow:(A.tg g=none∧ys=[])∨∃b l e xs v,A.tg g=some (b,l)∧OwnAt (X.F A) w e u xs b l v∧OwnAt (X.F A) w' e u ys b l v):
 Inv X A (σ.map (PC.qij g u ys)) tm w':=by
 have hblk:∀k,k<w.heap.size→(∀l,A.tg g≠some (k,l))→w'.heap[k]? =w.heap[k]? :=fun k hlt hn=>hk.block k hlt fun ⟨l,hl⟩=>hn l hl
 have S:Step (X.F A) (X.F A) w w':=⟨fun k hf hlt=>hblk k hlt fun l hl=>hf (.inr (.inr ⟨g,l,hl⟩)),fun _ hf=>.inl hf⟩;refine h.map (fun c v hc=> ?_) (h.kept.trans hk fun b ⟨l,hl⟩=>(h.good.tgm g b l hl).1.symm) S
  ⟨fun d b hb=>⟨(h.good.bxm d b hb).1,Nat.lt_of_lt_of_le (h.good.bxm d b hb).2 hk.size⟩,fun n b l hb=>⟨(h.good.tgm n b l hb).1,Nat.lt_of_lt_of_le (h.good.tgm n b l hb).2 hk.size⟩,h.good.bxi,h.good.tgi,h.good.bt,h.good.f0⟩
  (fun d tid cs b1 vs _ hb hw=>⟨hb,(hblk b1 (h.good.bxm d b1 hb).2 fun l hl=>h.good.bt d g b1 l hb hl).trans hw⟩)
 cases c with
 |slice e1 t1 xs1 q=>
  cases q with
  |no=>exact RC.step S trivial hc
  |nil=>exact RC.step S trivial hc
  |exact=>exact RC.step S trivial hc
  |own n=>
   unfold PC.qij;cases hb:Nat.beq n g with
   |true=>
    have:=Nat.eq_of_beq_eq_true hb;subst this;simp only [hb,cond_true];split
    ·rename_i hu;subst hu;rcases hrow with ⟨hn,rfl⟩|⟨b,l,e,xs,v0,htg,h1,h2⟩
     ·rcases hc with ⟨_,_,a,rfl⟩|⟨b1,l1,hb1,_⟩
      ·exact .inl ⟨hn,rfl,a,rfl⟩
      ·rw [hn] at hb1;cases hb1
     ·rcases hc with ⟨hn,_⟩|⟨b1,l1,hb1,h3⟩
      ·rw [hn] at htg;cases htg
      ·rw [htg] at hb1;cases hb1;obtain ⟨rfl,rfl,_⟩:=yqf h1 h3;exact .inr ⟨b,l,htg,h2⟩
    ·exact RC.one hc
   |false=>
    simp only [hb,cond_false];have hne:n≠g:=fun e=>by rw [e,Nat.beq_refl] at hb;cases hb
    exact RC.step S ⟨fun h=>h,fun b1 l hg=>⟨hg,hblk b1 (h.good.tgm n b1 l hg).2 fun l' hl'=>hne (h.good.tgi n g b1 l l' hg hl')⟩⟩ hc
 |elemT u n i o=>exact RC.step S (fun b1 l hg=>hg) hc
 |box d o=>exact RC.step S (fun _ h=>h) hc
 |pin _ _=>exact RC.step S (fun _ h=>h) hc
 |pinp _ _=>exact RC.step S (fun _ h=>h) hc
 |_=>exact RC.step S trivial hc
theorem ypr {f:Nat} {args:List SV} (hR:qaq X.P X.E run) (hW:yij X.P X.E) (hd:∀d,o.dst=some d→d<X.n)
 (hargs:∀(A:Fr) (a:Act) (w:World),Inv X A σ a.tmps w→∃vs:List Value,All2 (RS (X.F A) A w) args vs∧(zbc X.P f→(execOp a.eval o).run X.P w= .ok (.enter f vs.toArray) w))
 (h:rowK X.E run σ o.dst f args some=some σ'):zbm X o σ σ':=by
 unfold rowK at h;split at h
 ·rename_i b e u e' u' xs g c caps d hrow hdst;split at h
  ·rename_i heu;obtain ⟨rfl,rfl⟩:=heu;have R:=hW f b e' u' hrow;intro A a w hi hdef next Q hn
   obtain ⟨vs,hvs,hrun⟩:=hargs A a w hi;cases hvs with
   |cons hv1 hvs=>
    rename_i v1 vs;cases hvs with
    |cons hv2 hvs=>
     rename_i v2 vs;cases hvs;obtain ⟨cvs,rfl,hcaps⟩:∃cvs:List Value,v2= .func (.func c) #[] cvs.toArray∧All2 (RCap (X.F A) w) caps cvs:=hv2;have hF:∀b,X.F A b→b<w.heap.size:=fun k hk=>by
      rcases hk with hk|⟨d,hk⟩|⟨n,l,hk⟩
      ·exact Nat.lt_of_lt_of_le (hi.good.f0 k hk).1 hi.kept.size
      ·exact (hi.good.bxm d k hk).2
      ·exact (hi.good.tgm n k l hk).2
     have runs:∀{t:Ty} {R:Type} (ht:t.flat=true) (mk:R→Value) (cf:u'.den→u'.den→R) (back:R→t.den),(∀r v F B W,RS F B W (zep t (back r)) v→v=mk r)→
      (∀x∈xs,∀y∈xs,zeg X.E run ⟨c,caps⟩ [zep u' x,zep u' y] t=some (back (cf x y)))→ymh X.P X.E (X.F A) w u' c cvs mk cf xs:=fun ht mk cf back hback hall W x y cx cy hx hy hS hsz hcx hcy=>by
      refine (ywv hR ht (hall x hx y hy) (fun b hb=>Nat.lt_of_lt_of_le (hF b hb) hsz) (hi.glob.step hS) hcx hcy (zhn hcaps fun a b _ hr=>hr.step hS)).2.mono fun en W' ⟨rv,he,hk,hr⟩=>⟨?_,hk⟩
      rw [he,hback _ _ _ _ _ hr]
     unfold Oper.wp;rw [hrun R.call,Oper.upon_enter];show Calls X.P f #[v1,.func (.func c) #[] cvs.toArray] w _;cases b with
     |false=>
      simp only [cond_false,Option.bind_eq_some_iff,Option.some.injEq] at h;obtain ⟨ys,hys,rfl⟩:=h;obtain ⟨hall,hord,rfl,hlen⟩:=qfx hys;have kept0:Kept (fun k=>∃l,A.tg g=some (k,l)) w w:=⟨rfl,rfl,rfl,Nat.le_refl _,fun _ _ _=>rfl,Nat.le_refl _⟩;have go:∀{v:Value} {w':World},Inv X A (σ.map (PC.qij g u' (qlh (fun x y=>(zeg X.E run ⟨c,caps⟩ [zep u' x,zep u' y] (.int .i64)).getD 0) xs))) a.tmps w'→next (a.put o.dst v) w':=fun {v w'} hinv=>hn A _ _ (by rw [hdst];exact hinv.put (fun d' hd'=>hd d' (by rw [hdst];exact hd')) fun _=>trivial) (by rw [put_defers];exact hdef)
      by_cases hxs:xs=[]
      ·subst hxs;have hm:qlh (fun x y=>(zeg X.E run ⟨c,caps⟩ [zep u' x,zep u' y] (.int .i64)).getD 0) ([]:List u'.den)=[]:=by simp [qlh]
       rw [hm] at go;obtain ⟨ad,cap,rfl⟩:∃ad cap,v1= .slice ad 0 cap:=by
        rcases hv1 with ⟨_,_,ad,rfl⟩|⟨b,l,_,_,cap,cur,rfl,_⟩
        ·exact ⟨ad,0,rfl⟩
        ·exact ⟨_,cap,rfl⟩
       refine (R.none ad cap _ w).mono fun en w' ⟨he,hw⟩=> ?_
       subst hw;subst he;refine go (hi.setRows kept0 ?_);rcases hv1 with ⟨htg,_,_⟩|⟨b,l,htg,hown⟩
       ·exact .inl ⟨htg,rfl⟩
       ·exact .inr ⟨b,l,e',[],_,htg,hown,hown⟩
      ·rcases hv1 with ⟨_,h0,_⟩|⟨b,l,htg,hown⟩
       ·exact absurd h0 hxs
       ·have hc:zbc X.P c:=by obtain ⟨x0,hx0⟩:=List.exists_mem_of_ne_nil xs hxs;exact qnm hR (hall x0 hx0 x0 hx0)
        refine (R.sort rfl hord hxs hlen hc hown (.inr (.inr ⟨g,l,htg⟩)) (runs (t:=.int .i64) (R:=Int) rfl (.int .i64) (fun x y=>(zeg X.E run ⟨c,caps⟩ [zep u' x,zep u' y] (.int .i64)).getD 0) id (fun r v F B W h=>h) hall)).mono fun en w' ⟨he,hk,hown'⟩=> ?_
        subst he;exact go (hi.setRows ⟨hk.os,hk.tape,hk.output,hk.size,fun k hlt hn=>hk.block k hlt fun e=>hn ⟨l,e▸htg⟩,hk.drawn⟩ (.inr ⟨b,l,e',xs,v1,htg,hown,hown'⟩))
     |true=>
      simp only [cond_true,Option.bind_eq_some_iff,Option.some.injEq] at h;obtain ⟨ys,hys,rfl⟩:=h;obtain ⟨hall,hy⟩:=zwc hys;have go:∀{v:Value} {w':World},(∃A',Inv X A' (σ.kill [g,zcc d 0 0]) a.tmps w'∧RC (X.F A') A' w' (.slice e' u' ys (.own (zcc d 0 0))) v)→next (a.put o.dst v) w':=fun {v w'} ⟨A',hinv,hc⟩=>hn A' _ _ (by rw [hdst];exact hinv.put (fun d' hd'=>hd d' (by rw [hdst];exact hd')) fun _=>hc) (by rw [put_defers];exact hdef)
      have block:∀{v:Value} {w':World} {b l:Nat},A.tg g=some (b,l)→Kept (fun k=>k=b) w w'→OwnAt (X.F A) w' e' u' ys b ys.length v→next (a.put o.dst v) w':=fun {v w' b l} htg hk hown=>by
       have hFb:X.F A b:=.inr (.inr ⟨g,l,htg⟩);refine go ⟨_,hi.ygt (l:=[g,zcc d 0 0]) (n:=zcc d 0 0) (g:=b) (len:=ys.length) (by simp) (fun k hlt hne=>hk.block k hlt fun e=> ?_) (hi.kept.trans hk fun k e=> ?_)
        ⟨(hi.good.tgm g b _ htg).1,Nat.lt_of_lt_of_le (hi.good.tgm g b _ htg).2 hk.size⟩ hk.size (.inr ⟨g,_,htg,by simp⟩),.inr ⟨b,ys.length,by simp [Fr.qeg],hown.step (zte (fun _ _ _=>rfl) (.inl hFb)) rfl⟩⟩
       ·subst e;rcases hne with hne|⟨d',hne⟩|⟨m,k',hne,hm⟩
        ·exact hne hFb
        ·exact hi.good.bt d' g k l hne htg
        ·exact hm (by rw [hi.good.tgi m g k k' l hne htg];simp)
       ·subst e;exact (hi.good.tgm g k _ htg).1.symm
      by_cases hxs:xs=[]
      ·subst hxs;have hy0:ys=[]:=hy;subst hy0;obtain ⟨ad,cap,rfl⟩:∃ad cap,v1= .slice ad 0 cap:=by
        rcases hv1 with ⟨_,_,ad,rfl⟩|⟨b,l,_,_,cap,cur,rfl,_⟩
        ·exact ⟨ad,0,rfl⟩
        ·exact ⟨_,cap,rfl⟩
       refine (R.none ad cap _ w).mono fun en w' ⟨he,hw⟩=> ?_
       subst hw;simp only [if_true] at he;subst he;rcases hv1 with ⟨htg,_,ad',hv⟩|⟨b,l,htg,hown⟩
       ·obtain ⟨A',h5,h6⟩:=hi.kill [g,zcc d 0 0];refine go ⟨A',h5,.inl ⟨?_,rfl,ad',hv⟩⟩;rcases h6 with ⟨h6,_⟩|rfl
        ·cases h6
        ·simp [Fr.drop,mem,Nat.beq_refl]
       ·have hl:l=0:=hown.1;subst hl;exact block htg ⟨rfl,rfl,rfl,Nat.le_refl _,fun _ _ _=>rfl,Nat.le_refl _⟩ hown
      ·rcases hv1 with ⟨_,h0,_⟩|⟨b,l,htg,hown⟩
       ·exact absurd h0 hxs
       ·have hc:zbc X.P c:=by obtain ⟨x0,hx0⟩:=List.exists_mem_of_ne_nil xs hxs;exact qnm hR (hall x0 hx0 x0 hx0)
        refine (R.compact rfl hxs hc hown (.inr (.inr ⟨g,l,htg⟩)) (runs (t:=.bool) (R:=Bool) rfl .bool (fun x y=>(zeg X.E run ⟨c,caps⟩ [zep u' x,zep u' y] .bool).getD false) id (fun r v F B W h=>h) hall)).mono fun en w' ⟨v',he,hk,hown'⟩=> ?_
        subst he;rw [←hy] at hown';exact block htg hk hown'
  ·cases h
 ·cases h
def yoo (P:Program) (E:Env):Prop:=∀f e u,E.revs f=some (e,u)→yop P f e u
theorem ypt {f:Nat} {p:TypeId×Ty} {args:List SV} (R:yop X.P f p.1 p.2) (hd:∀d,o.dst=some d→d<X.n)
 (hargs:∀(A:Fr) (a:Act) (w:World),Inv X A σ a.tmps w→∃vs:List Value,All2 (RS (X.F A) A w) args vs∧(zbc X.P f→(execOp a.eval o).run X.P w= .ok (.enter f vs.toArray) w))
 (h:revK p σ o.dst args some=some σ'):zbm X o σ σ':=by
 unfold revK at h;split at h
 ·rename_i e' u' xs g d hdst;split at h
  ·rename_i heu;obtain ⟨rfl,rfl⟩:=heu;cases h;intro A a w hi hdef next Q hn
   obtain ⟨vs,hvs,henter⟩:=hargs A a w hi;cases hvs with
   |cons h0 ht=>
    cases ht;rename_i v1;have hv1:RC (X.F A) A w (.slice p.1 p.2 xs (.own g)) v1:=h0;unfold Oper.wp;rw [henter R.call,Oper.upon_enter];have kept0:Kept (fun k=>∃l,A.tg g=some (k,l)) w w:=⟨rfl,rfl,rfl,Nat.le_refl _,fun _ _ _=>rfl,Nat.le_refl _⟩;have go:∀{v:Value} {w':World},Inv X A (σ.map (PC.qij g p.2 xs.reverse)) a.tmps w'→next (a.put o.dst v) w':=fun {v w'} hinv=>hn A _ _ (by rw [hdst];exact hinv.put (fun d' hd'=>hd d' (by rw [hdst];exact hd')) fun _=>trivial) (by rw [put_defers];exact hdef)
    by_cases hxs:xs=[]
    ·subst hxs;obtain ⟨ad,cap,rfl⟩:∃ad cap,v1= .slice ad 0 cap:=by
      rcases hv1 with ⟨_,_,ad,rfl⟩|⟨b,l,_,_,cap,cur,rfl,_⟩
      ·exact ⟨ad,0,rfl⟩
      ·exact ⟨_,cap,rfl⟩
     refine (R.none ad cap w).mono fun en w' ⟨he,hw⟩=> ?_
     subst hw;subst he;refine go (hi.setRows kept0 ?_);rcases hv1 with ⟨htg,_,_⟩|⟨b,l,htg,hown⟩
     ·exact .inl ⟨htg,rfl⟩
     ·exact .inr ⟨b,l,p.1,[],_,htg,hown,hown⟩
    ·rcases hv1 with ⟨_,h0,_⟩|⟨b,l,htg,hown⟩
     ·exact absurd h0 hxs
     ·refine (R.rev hxs hown (.inr (.inr ⟨g,l,htg⟩))).mono fun en w' ⟨he,hk,hown'⟩=> ?_
      subst he;exact go (hi.setRows ⟨hk.os,hk.tape,hk.output,hk.size,fun k hlt hn=>hk.block k hlt fun e=>hn ⟨l,e▸htg⟩,hk.drawn⟩ (.inr ⟨b,l,p.1,xs,v1,htg,hown,hown'⟩))
  ·cases h
 ·cases h
theorem ylw {f:Nat} {args:List SV} (hR:qaq X.P X.E run) (hW:yij X.P X.E) (hV:yoo X.P X.E) (hd:∀d,o.dst=some d→d<X.n)
 (hargs:∀(A:Fr) (a:Act) (w:World),Inv X A σ a.tmps w→∃vs:List Value,All2 (RS (X.F A) A w) args vs∧(zbc X.P f→(execOp a.eval o).run X.P w= .ok (.enter f vs.toArray) w))
 (h:qww X.E run σ o.dst f args some=some σ'):zbm X o σ σ':=by
 unfold qww at h;cases hio:(X.E.sig f).io with
 |true=>
  simp only [hio,cond_true] at h;split at h
  ·rename_i p hp;exact ypt (hV f p.1 p.2 hp) hd hargs h
  ·exact ypr hR hW hd hargs h
 |false=>
  simp only [hio,cond_false] at h;split at h
  ·rename_i x H hp hh;split at h
   ·rename_i hrb;cases hcond:((X.E.sig f).res.all Kd.qcm||H.pm.isEmpty) with
    |false=>simp [hcond] at h
    |true=>
     simp only [hcond,cond_true,Option.bind_eq_some_iff] at h;obtain ⟨r,hr,h⟩:=h;obtain ⟨hcall,hcon⟩:=hR f x r hr;intro A a w hi hdef next Q hn
     obtain ⟨vs,hvs,hrun⟩:=hargs A a w hi;obtain ⟨hOK,hA⟩:=qun hi hh hrb hp hvs;unfold Oper.wp;rw [hrun hcall,Oper.upon_enter];refine (hcon w _ _ _ vs hA).mono fun e w' hret=> ?_
     obtain ⟨v,rfl,hk,hres⟩:=hret;show next (a.put o.dst v) w'
     generalize hrl:(bif (X.E.sig f).res.all Kd.qcm then [] else H.pl)=rl at h;have hrl':∀m∈rl,m∈H.pl:=fun m hm=>by
      rw [←hrl] at hm;cases hfl:(X.E.sig f).res.all Kd.qcm with
      |true=>simp [hfl] at hm
      |false=>simpa [hfl] using hm
     cases hdst:o.dst with
     |none=>simp only [hdst,Option.some.injEq] at h;subst h;have h0:=hi.qut (T:=⟨fun _=>none,fun _=>none⟩) hOK (names:=[]) hrl' hk (fun n b l h=>by cases h) (fun n n' b l l' h=>by cases h);exact hn _ _ w' h0 (by rw [put_defers];exact hdef)
     |some d=>
      simp only [hdst,Option.some.injEq] at h;subst h;obtain ⟨T,hT⟩:=hres d;have h0:=hi.qut hOK (names:=ownNames d 0 (X.E.sig f).res) hrl' hk hT.tgm hT.tgi;refine hn _ _ w' (h0.put (fun d' hd'=>hd d' (by rw [hdst];exact hd')) fun _=> ?_) (by rw [put_defers];exact hdef);cases hfl:(X.E.sig f).res.all Kd.qcm with
      |true=>exact RP.imp (yfn fun s hs c hc v=>ydn.move (qeo r hfl s hs c hc)) hT.rel
      |false=>
       have hpm:H.pm=[]:=by simpa [hfl] using hcond
       simp only [hfl,cond_false] at hrl;subst hrl;refine RP.step ?_ ?_ hT.rel
       ·refine ⟨fun _ _ _=>rfl,fun b hb=>.inl ?_⟩;rcases hb with hb|⟨d',hb⟩|⟨m,l,hb⟩
        ·exact .inl (.inl hb)
        ·exact .inl (.inr (.inl ⟨d',hb,by rw [hpm];simp⟩))
        ·simp only [Fr.after] at hb;split at hb
         ·exact .inr (.inr ⟨m,l,hb⟩)
         ·split at hb
          ·cases hb
          ·rename_i h2;exact .inl (.inr (.inr ⟨m,l,hb,fun h=>h2 (.inl h),fun h=>h2 (.inr h)⟩))
       ·refine yfn fun s hs c hc=> ?_
        have hnm:=zsp (names:=ownNames d 0 (X.E.sig f).res) (d:=d) (j:=0) r (fun _ h=>h) s hs c hc;cases c with
        |slice e t xs g=>cases g with
         |own m=>have hm:m∈ownNames d 0 (X.E.sig f).res:=hnm;exact ⟨fun e=>by simp [Fr.after,hm,e],fun g l hg=>⟨by simp [Fr.after,hm,hg],rfl⟩⟩
         |_=>trivial
        |elemT u n i o=>exact hnm.elim
        |box d' o=>exact fun b hb=>by rw [hT.bx] at hb;cases hb
        |pin _ _=>exact fun b hb=>by rw [hT.bx] at hb;cases hb
        |pinp _ _=>exact fun b hb=>by rw [hT.bx] at hb;cases hb
        |_=>trivial
   ·cases h
  ·cases h
theorem zzq {A:Fr} {a:Act} {w:World} (hi:Inv X A σ a.tmps w):∀{l:List Operand} {svs:List SV},qlw σ l=some svs→All2 (RS (X.F A) A w) svs (l.map a.eval)
 |[],svs,h=>by simp only [qlw,Option.some.injEq] at h;subst h;exact .nil
 |x::r,svs,h=>by
  simp only [qlw] at h;split at h
  ·rename_i s l' hs hl;cases h;have hx:=zah hi x;rw [hs] at hx;exact .cons hx (zzq hi hl)
  ·cases h
theorem zlx {A:Fr} {a:Act} {w:World} (hi:Inv X A σ a.tmps w):∀{ts:List TypeId} {svs:List SV} {vs:List Value},All2 (RS (X.F A) A w) svs vs→All2 (RS (X.F A) A w) (zfv X.E ts svs) vs
 |[],svs,vs,h=>by cases svs<;>exact h
 |t::ts,_,_,.nil=>.nil
 |t::ts,s::ss,v::vs,.cons h0 h=>by
  have h1:RP (X.F A) A w (X.E.typed t (.sv s)) v:=ziu t h0;simp only [zfv];refine .cons ?_ (zlx hi h);split
  ·rename_i s' hs;rw [hs] at h1;exact h1
  ·exact h0
theorem qgy {a:Act} {w:World} {c:Call} {fo:Operand} {f:Nat} {vs ws:List Value} (ho:o.op= .call c) (hc:c.callee= .value fo) (hf:a.eval fo= .func (.func f) #[] ws.toArray) (hv:c.args.toList.map a.eval=vs) (hcall:zbc X.P f):
 (execOp a.eval o).run X.P w= .ok (.enter f (vs++ws).toArray) w:=by
 have hargs:c.args.map a.eval=vs.toArray:=Array.ext' (by simpa using hv);have h1:=ywo hcall (vs++ws).toArray w;simp [execOp,ho,resolve,hc,hf,Deferred.ofValue,invoke,hargs] at h1 ⊢
 simpa using h1
def yil (P:Program) (E:Env):Prop:=∀(X:Ctx),X.P=P→X.E=E→∀(o:Oper) (c:Call) (f:Operand) (σ σ':St) (br v:Nat) (args:List SV),(∀d,o.dst=some d→d<X.n)→o.op= .call c→c.callee= .value f→
 σ.ev f= .sv (.one (.pin br v))→qlw σ c.args.toList=some args→pinK E σ o.dst v (zfv E c.argTypes.toList args) some=some σ'→zbm X o σ σ'
theorem yup {P:Program} {E:Env} (h:∀v t e l u xs,E.pinF v t e l u xs=none):yil P E:=fun X _ _ o c f σ σ' br v args _ _ _ _ _ hk=>by
 unfold pinK at hk;split at hk
 ·rw [h] at hk;cases hk
 ·cases hk
theorem yrc {c:Call} {fo:Operand} (hE:zgk X.P X.E) (hR:qaq X.P X.E run) (hW:yij X.P X.E) (hV:yoo X.P X.E) (hPin:yil X.P X.E) (ho:o.op= .call c) (hc:c.callee= .value fo) (hd:∀d,o.dst=some d→d<X.n) (h:opK X.E run σ o some=some σ'):zbm X o σ σ':=by
 simp only [opK,ho,hc] at h;split at h
 ·rename_i f caps args hf hargs;refine ylw hR hW hV hd (fun A a w hi=> ?_) h;have hv:=zah hi fo;rw [hf] at hv;obtain ⟨ws,hfe,hcaps⟩:=hv;exact ⟨c.args.toList.map a.eval++ws,All2.append (zlx hi (zzq hi hargs)) (qpo hcaps),fun hcall=>qgy ho hc hfe rfl hcall⟩
 ·rename_i br v args hf hargs;exact hPin X rfl rfl o c fo σ σ' br v args hd ho hc hf hargs h
 ·rename_i q args hf hargs;split at h
  ·rename_i i hti;split at h
   ·rename_i t hty;simp only [Option.bind_eq_some_iff,Option.some.injEq] at h;obtain ⟨r,hr,rfl⟩:=h;unfold zeg at hr;cases hio:(X.E.sig q.f).io with
    |true=>simp [hio] at hr
    |false=>
     simp only [hio,cond_false] at hr;split at hr
     ·rename_i x H hp hh;cases hcd:(H.rb.isEmpty&&H.srcs.isEmpty) with
      |false=>simp [hcd] at hr
      |true=>
       simp only [hcd,cond_true,Option.bind_eq_some_iff] at hr;obtain ⟨rr,hrun,hcast⟩:=hr;simp only [Bool.and_eq_true,List.isEmpty_iff] at hcd;obtain ⟨hrb,hsrc⟩:=hcd;obtain ⟨hcall,hcon⟩:=hR q.f x rr hrun;obtain ⟨hpl,hpm,hpl2⟩:=ylc hp hh hsrc;intro A a w hi hdef next Q hn
       have hv:=zah hi fo;rw [hf] at hv;obtain ⟨ws,hfe,hcaps⟩:=hv;have hvs:All2 (RS (X.F A) A w) (zfv X.E c.argTypes.toList args++q.caps.map qkg) (c.args.toList.map a.eval++ws):=All2.append (zlx hi (zzq hi hargs)) (qpo hcaps);have hi0:Inv X A ⟨[],[]⟩ a.tmps w:=⟨hi.sz,hi.kept,hi.glob,fun i=>trivial,fun d tid cs hd=>by simp [getB] at hd,hi.good,fun p hp=>by cases hp⟩;obtain ⟨hOK,hA⟩:=qun hi0 hh hrb hp hvs;unfold Oper.wp;rw [qgy ho hc hfe rfl hcall,Oper.upon_enter];refine (hcon w _ _ _ _ hA).mono fun e w' hret=> ?_
       obtain ⟨v,rfl,hk,hres⟩:=hret;show next (a.put o.dst v) w'
       obtain ⟨rl,hrl⟩:∃rl,yhs t (zfv X.E c.argTypes.toList args)=rl:=⟨_,rfl⟩;rw [hrl] at hn;have hrl':∀m∈rl,m∈H.pl:=fun m hm=>by
        rw [←hrl] at hm;unfold yhs at hm;cases hfl:t.flat with
        |true=>simp [hfl] at hm
        |false=>simp only [hfl,cond_false] at hm;exact hpl m (by rw [List.flatMap_append];exact List.mem_append_left _ hm)
       have h0:=hi.qut (T:=⟨fun _=>none,fun _=>none⟩) hOK (names:=[]) (rl:=rl) hrl' hk (fun n b l h=>by cases h) (fun n n' b l l' h=>by cases h);rw [hsrc] at h0;refine hn _ _ w' (Inv.put (σ:=σ.release rl) (by simpa only [St.kill] using h0) hd fun _=> ?_) (by rw [put_defers];exact hdef);obtain ⟨T,hT⟩:=hres 0;have key:∀{ks:List Kd} {rr:Tup ks},qud t ks rr=some r→ownNames 0 0 ks=[]∧∀{F:Nat→Prop} {B:Fr},RP F B w' (yau 0 ks rr) v→RP F B w' (.sv (Kd.unpack 0 0 (.v t []) r)) v:=by
        intro ks rr hcast;unfold qud at hcast;split at hcast
        ·rename_i t' x';split at hcast
         ·rename_i ht;subst ht;cases hcast;exact ⟨rfl,fun hrel=>hrel⟩
         ·cases hcast
        ·cases hcast
       obtain ⟨hno,hmv⟩:=key hcast;have hrel:=hmv hT.rel;cases hfl:t.flat with
       |true=>exact RP.imp (p:=.sv _) (fun c hc v=>ydn.move (zxx (k:=.v t []) hfl r c hc)) hrel
       |false=>
        have hrl2:∀m∈H.pl,m∈rl:=fun m hm=>by
         rw [←hrl];have:=hpl2 m hm;rw [List.flatMap_append,List.mem_append] at this;rcases this with h|h
         ·simpa only [yhs,hfl,cond_false] using h
         ·obtain ⟨s,hs,hms⟩:=List.mem_flatMap.1 h;obtain ⟨c',_,rfl⟩:=List.mem_map.1 hs;rw [yra] at hms;cases hms
        refine RP.step ?_ ?_ hrel
        ·refine ⟨fun _ _ _=>rfl,fun b hb=>.inl ?_⟩;rcases hb with hb|⟨d',hb⟩|⟨m,l,hb⟩
         ·exact .inl (.inl hb)
         ·exact .inl (.inr (.inl ⟨d',hb,by rw [hpm];simp⟩))
         ·simp only [Fr.after] at hb;split at hb
          ·rename_i hm;cases hm
          ·split at hb
           ·cases hb
           ·rename_i h2;exact .inl (.inr (.inr ⟨m,l,hb,fun h=>(by rw [hsrc] at h;cases h),fun h=>h2 (.inr (hrl2 m h))⟩))
        ·intro c hc;have hnm:=zsp (ks:=[.v t []]) (names:=[]) (d:=0) (j:=0) r (fun _ h=>(by cases h)) _ (List.mem_singleton.2 rfl) c hc;cases c with
         |slice e t xs g=>cases g with
          |own m=>exact (List.not_mem_nil hnm).elim
          |_=>trivial
         |elemT u n i o=>exact hnm.elim
         |box d' o=>exact fun b hb=>by rw [hT.bx] at hb;cases hb
         |pin _ _=>exact fun b hb=>by rw [hT.bx] at hb;cases hb
         |pinp _ _=>exact fun b hb=>by rw [hT.bx] at hb;cases hb
         |_=>trivial
     ·cases hr
   ·cases h
  ·cases h
 ·cases h
end
section
variable {E:Env} {run:Runs E} {R:Type}
theorem qcy {α:Type} (c:Bool) (x:α) (K:α→Option R):(bif c then K x else none)=(bif c then some x else none).bind K:=by cases c<;>rfl
theorem zxs {α:Type} (c:Bool) (x:α) (K:α→Option R):(bif c then none else K x)=(bif c then none else some x).bind K:=by cases c<;>rfl
theorem zxn (σ:St) (t:TypeId) (p:PV) (K:SV→Option R):zkf E σ t p K=(zkf E σ t p some).bind K:=by
 unfold zkf
 repeat' (first|rfl|split)
theorem qqe (σ:St) (t:TypeId) (p:PV) (x:SV) (K:St→Option R):qmj E σ t p x K=(qmj E σ t p x some).bind K:=by
 unfold qmj
 repeat' (first|rfl|split)
 all_goals (cases mem (zdk x.cells) _<;>rfl)
theorem qki (op:BinOp) (t:TypeId) (a b:SV) (K:PC→Option R):binK E op t a b K=(binK E op t a b some).bind K:=by
 unfold binK
 repeat' (first|rfl|split)
 all_goals first|exact qcy _ _ _|exact zxs _ _ _
theorem yjg (i:TI) (σ:St) (d:Option Nat) (x:PV) (lo hi mx:Option Operand) (K:St→Option R):qeq E i σ d x lo hi mx K=(qeq E i σ d x lo hi mx some).bind K:=by
 unfold qeq
 repeat' (first|rfl|split)
 all_goals first|exact qcy _ _ _|exact zxs _ _ _
theorem yih (σ:St) (d:Option Nat) (ty:TypeId) (s x:PV) (K:St→Option R):zwh E σ d ty s x K=(zwh E σ d ty s x some).bind K:=by
 unfold zwh
 repeat' (first|rfl|split)
 all_goals first|exact qcy _ _ _|exact zxs _ _ _
theorem ydl (σ:St) (d:Option Nat) (ty ty':TypeId) (s x:PV) (K:St→Option R):qkj E σ d ty ty' s x K=(qkj E σ d ty ty' s x some).bind K:=by
 unfold qkj
 repeat' (first|rfl|split)
 all_goals first|exact qcy _ _ _|exact zxs _ _ _
theorem qmd {α:Type} (x:Option α) (g:α→St) (K:St→Option R):(x.bind fun r=>K (g r))=(x.bind fun r=>some (g r)).bind K:=by cases x<;>rfl
theorem yib {α:Type} (c:Bool) {a b:Option R} {a' b':Option α} {K:α→Option R} (h1:a=a'.bind K) (h2:b=b'.bind K):(bif c then a else b)=(bif c then a' else b').bind K:=by cases c<;>assumption
theorem ytv (run:Runs E) (σ:St) (d:Option Nat) (f:Nat) (args:List SV) (K:St→Option R):rowK E run σ d f args K=(rowK E run σ d f args some).bind K:=by
 unfold rowK;split
 ·split
  ·refine yib _ ?_ ?_
   ·exact qmd _ (fun ys=>_) K
   ·exact qmd _ (fun ys=>_) K
  ·rfl
 ·rfl
theorem ytx (p:TypeId×Ty) (σ:St) (d:Option Nat) (args:List SV) (K:St→Option R):revK p σ d args K=(revK p σ d args some).bind K:=by
 unfold revK;split
 ·split<;>rfl
 ·rfl
theorem yre (σ:St) (d:Option Nat) (f:Nat) (args:List SV) (K:St→Option R):qww E run σ d f args K=(qww E run σ d f args some).bind K:=by
 unfold qww;cases (E.sig f).io with
 |true=>
  simp only [cond_true];split
  ·exact ytx ..
  ·exact ytv ..
 |false=>
  simp only [cond_false]
  repeat' (first|rfl|split)
  all_goals
   cases ((E.sig f).res.all Kd.qcm||_)
   ·rfl
   ·simp only [cond_true,Option.bind_assoc,Option.bind_some]
theorem yuq (σ:St) (d:Option Nat) (v:Nat) (args:List SV) (K:St→Option R):pinK E σ d v args K=(pinK E σ d v args some).bind K:=by
 unfold pinK;split
 ·rw [Option.bind_assoc];rfl
 ·rfl
theorem ykx (σ:St) (t:TypeId) (p:PV) (g:SV→St) (K:St→Option R):zkf E σ t p (fun s=>K (g s))=(zkf E σ t p fun s=>some (g s)).bind K:=by rw [zxn (K:=fun s=>K (g s)),zxn (K:=fun s=>some (g s)),Option.bind_assoc];rfl
theorem yec (σ:St) (t:TypeId) (p:PV) (x:SV) (g:St→St) (K:St→Option R):qmj E σ t p x (fun s=>K (g s))=(qmj E σ t p x fun s=>some (g s)).bind K:=by rw [qqe (K:=fun s=>K (g s)),qqe (K:=fun s=>some (g s)),Option.bind_assoc];rfl
theorem yrg (op:BinOp) (t:TypeId) (a b:SV) (g:PC→St) (K:St→Option R):binK E op t a b (fun s=>K (g s))=(binK E op t a b fun s=>some (g s)).bind K:=by rw [qki (K:=fun s=>K (g s)),qki (K:=fun s=>some (g s)),Option.bind_assoc];rfl
theorem qdt (σ:St) (o:Oper) (K:St→Option R):opK E run σ o K=(opK E run σ o some).bind K:=by
 unfold opK;dsimp only
 repeat' (first|rfl|(exact qcy _ _ _)|(exact zxs _ _ _)|(exact ykx ..)|(exact yec ..)|(exact yrg ..)|(exact yjg ..)|(exact yih ..)|(exact ydl ..)|(exact yre ..)|(exact yuq ..)|(exact qmd ..)|(refine yib _ ?_ ?_)|split)end
structure qel (P:Program) (E:Env):Prop where
 mixed:P.follows .mixedOrders=true
 types:zgk P E
 elems:quu P E
 rows:yij P E
 pins:yil P E
 revs:yoo P E
theorem ynj {X:Ctx} {run:Runs X.E} {o:Oper} {σ σ':St} (hT:qel X.P X.E) (hR:qaq X.P X.E run) (hd:∀d,o.dst=some d→d<X.n) (h:opK X.E run σ o some=some σ'):zbm X o σ σ':=by
 cases ho:o.op with
 |move x=>have h':=h;simp only [opK,ho,Option.some.injEq] at h';subst h';exact zwm (.inl ho) hd
 |assign x=>have h':=h;simp only [opK,ho,Option.some.injEq] at h';subst h';exact zwm (.inr ho) hd
 |pick c x y=>
  simp only [opK,ho] at h;split at h
  ·rename_i t hc;have:σ'=σ.put o.dst (X.E.typed o.type (σ.ev (bif t then x else y))):=by cases t<;>simp at h<;>exact h.symm
   subst this;exact ypa ho hd hc
  ·cases h
 |alloc t=>exact ymf hT.types ho hd h
 |box t x=>exact yxl ho hd h
 |build t p=>exact ylz hT.types ho hd h
 |buildSlice t n p=>exact qoo hT.types ho hd h
 |load t p=>simp only [opK,ho] at h;rw [show zkf X.E σ t (σ.ev p) (fun s=>some (σ.put o.dst (.sv s)))=(zkf X.E σ t (σ.ev p) some).bind fun s=>some (σ.put o.dst (.sv s)) from zxn ..] at h;simp only [Option.bind_eq_some_iff,Option.some.injEq] at h;obtain ⟨s,hs,rfl⟩:=h;exact ypb hT.types ho hd hs
 |store t p x=>exact yix hT.types ho hd h
 |nilCheck x=>exact qvy ho hd h
 |binOp op t x y z=>exact ymb hT.types ho hd h
 |unOp op t x=>exact yos ho hd h
 |convert a b x=>exact ydb hT.types ho hd h
 |makeFunc f a b=>exact qwj ho hd h
 |slice t x lo hi mx=>exact yjf hT.types hT.elems ho hd h
 |fieldAddr t p f=>exact qql hT.types ho hd h
 |indexAddr t x ix=>exact qqk hT.types hT.elems ho hd h
 |index t x ix=>exact ylb hT.types ho hd h
 |extract t ix=>exact ycu ho hd h
 |lookup t m k b=>exact yha hT.types ho hd h
 |call c=>
  cases hc:c.callee with
  |builtin b=>
   cases b with
   |len=>exact yvw hT.types ho hc hd h
   |cap=>exact yxh hT.types ho hc hd h
   |append=>exact yif hT.types ho hc hd h
   |max=>exact yvo ho hc hd h
   |min=>exact yvn ho hc hd h
   |_=>simp [opK,ho,hc] at h
  |value f=>exact yrc hT.types hR hT.rows hT.revs hT.pins ho hc hd h
  |invoke r n=>simp [opK,ho,hc] at h
 |_=>simp [opK,ho] at h
section
variable {X:Ctx} {run:Runs X.E}
def zle (X:Ctx) (ops:Array Oper) (i:Nat) (σ σ':St):Prop:=
 ∀(A:Fr) (a:Act) (w:World),Inv X A σ a.tmps w→a.defers=[]→∀(next:Act→World→Prop) (Q:Exit→Act→World→Prop),
  (∀A' a' w',Inv X A' σ' a'.tmps w'→a'.defers=[]→next a' w')→wpOp X.P ops Q i next a w
theorem Inv.xgy {A:Fr} {σ:St} {tm:Array Value} {w:World} (h:Inv X A σ tm w) {d:Nat} {p:PV} (hp:RP (X.F A) A w p (tm.getD d undef)):Inv X A (σ.put (some d) p) tm w:=by
 refine ⟨h.sz,h.kept,h.glob,fun i=> ?_,h.box,h.good,fun q hq=> ?_⟩
 ·rw [St.get_put];by_cases hi:i=d
  ·subst hi;simp only [if_true];exact hp
  ·simp only [hi,if_false];exact h.slot i
 ·rcases List.mem_cons.1 hq with rfl|hq
  ·exact ⟨_,hp⟩
  ·exact h.ent q hq
theorem qmf {ops:Array Oper} {tm:Array Value} {j slot:Nat} {b:Bool} (hs:(ops[j]?).bind (·.dst)=some slot) (h:tm.getD slot undef= .bool b):yielded ops tm j=some b:=by
 unfold yielded;rw [hs];simp only [Option.bind_some];rw [Array.getD_eq_getD_getElem?] at h;cases ht:tm[slot]? with
 |none=>rw [ht] at h;cases h
 |some v=>rw [ht] at h;simp only [Option.getD_some] at h;rw [h]
theorem ydq {ops:Array Oper} {tm:Array Value} {j slot:Nat} (hs:(ops[j]?).bind (·.dst)=some slot) (h:tm.getD slot undef=undef):yielded ops tm j=none:=by
 unfold yielded;rw [hs];simp only [Option.bind_some];rw [Array.getD_eq_getD_getElem?] at h;cases ht:tm[slot]? with
 |none=>rfl
 |some v=>rw [ht] at h;simp only [Option.getD_some] at h;rw [h];rfl
theorem zos {ops:Array Oper} {i:Nat} {o:Oper} {σ:St} {R:Type} {K:St→Option R} {r:R} (hT:qel X.P X.E) (hR:qaq X.P X.E run) (hi:ops[i]? =some o) (hd:∀d,o.dst=some d→d<X.n)
 (h:opGK X.E run ops.toList σ o K=some r):∃σ',K σ'=some r∧zle X ops i σ σ':=by
 unfold opGK at h;split at h
 ·rename_i hg;rw [qdt] at h;simp only [Option.bind_eq_some_iff] at h;obtain ⟨σ',h1,h2⟩:=h;refine ⟨σ',h2,fun A a w hinv hdef next Q hn=> ?_⟩;unfold wpOp;simp only [hi,Region.wanted,hg,if_true];exact .inl (ynj hT hR hd h1 A a w hinv hdef next Q hn)
 ·rename_i j want hg;split at h
  ·cases h
  ·rename_i slot hslot;have hslot':(ops[j]?).bind (·.dst)=some slot:=by rw [←Array.getElem?_toList];exact hslot
   have go:∀(b:Bool) (p:PV),σ.get slot= .sv (.one (.bool b))→b=want→opK X.E run (σ.put (some slot) (.sv (.one (.bool b)))) o K=some r→∃σ',K σ'=some r∧zle X ops i σ σ':=by intro b p hb hbw h;rw [qdt] at h;simp only [Option.bind_eq_some_iff] at h;obtain ⟨σ',h1,h2⟩:=h;refine ⟨σ',h2,fun A a w hinv hdef next Q hn=> ?_⟩;have hv:=hinv.slot slot;rw [hb] at hv;have hy:=qmf hslot' hv;unfold wpOp;simp only [hi,Region.wanted,hg,hy,hbw,beq_self_eq_true,if_true];exact .inl (ynj hT hR hd h1 A a w (hinv.xgy (d:=slot) (by exact hv)) hdef next Q hn)
   have skip:∀(σ1:St),(∀(A:Fr) (a:Act) (w:World),Inv X A σ a.tmps w→Inv X A σ1 a.tmps w∧(yielded ops a.tmps j==some want)=false)→K (σ1.put o.dst .void)=some r→∃σ',K σ'=some r∧zle X ops i σ σ':=by intro σ1 hs h;refine ⟨_,h,fun A a w hinv hdef next Q hn=> ?_⟩;obtain ⟨h1,h2⟩:=hs A a w hinv;unfold wpOp;simp only [hi,Region.wanted,hg,h2,if_false,Bool.false_eq_true];exact hn A _ w (h1.put hd fun _=>rfl) (by rw [put_defers];exact hdef)
   unfold qfh at h;split at h
   ·rename_i b hb;have sk:∀(b:Bool),σ.get slot= .sv (.one (.bool b))→b≠want→∀(A:Fr) (a:Act) (w:World),Inv X A σ a.tmps w→Inv X A (σ.put (some slot) (.sv (.one (.bool b)))) a.tmps w∧(yielded ops a.tmps j==some want)=false:=by intro b hb hbw A a w hinv;have hv:=hinv.slot slot;rw [hb] at hv;refine ⟨hinv.xgy (d:=slot) (by exact hv),?_⟩;rw [qmf hslot' hv];cases b<;>cases want<;>simp_all
    cases b<;>cases want<;>simp only [cond_true,cond_false] at h
    ·exact go false .undef hb rfl h
    ·exact skip _ (sk false hb (by simp)) h
    ·exact skip _ (sk true hb (by simp)) h
    ·exact go true .undef hb rfl h
   ·rename_i hv;refine skip σ (fun A a w hinv=>⟨hinv,?_⟩) h;have h1:=hinv.slot slot;rw [hv] at h1;rw [ydq hslot' h1];rfl
   ·cases h
theorem qsj {ops:Array Oper} {R:Type} {K:St→Option R} {r:R} (hT:qel X.P X.E) (hR:qaq X.P X.E run) (hd:∀o∈ops.toList,∀d,o.dst=some d→d<X.n):
 ∀(l:List Oper) (i:Nat) (σ:St),ops.toList.drop i=l→opsK X.E run ops.toList l σ K=some r→
  ∃σ',K σ'=some r∧∀(A:Fr) (a:Act) (w:World),Inv X A σ a.tmps w→a.defers=[]→∀(Q:Exit→Act→World→Prop),(∀A' a' w',Inv X A' σ' a'.tmps w'→a'.defers=[]→Q .normal a' w')→
   wpOps X.P ops Q (List.range' i l.length) a w
 |[],i,σ,hl,h=>⟨σ,h,fun A a w hi hdef Q hq=>hq A a w hi hdef⟩
 |o::l,i,σ,hl,h=>by
  simp only [opsK] at h;have hio:ops[i]? =some o:=by
   have:=congrArg (·[0]?) hl
   simp only [List.getElem?_drop,List.getElem?_cons_zero,Nat.add_zero] at this;rw [←Array.getElem?_toList];exact this
  have hmem:o∈ops.toList:=List.mem_of_getElem? (by rw [←Array.getElem?_toList] at hio;exact hio);obtain ⟨σ1,h1,h2⟩:=zos hT hR hio (hd o hmem) h;have hl':ops.toList.drop (i+1)=l:=by rw [←List.drop_drop,hl];rfl
  obtain ⟨σ2,h3,h4⟩:=qsj hT hR hd l (i+1) σ1 hl' h1;refine ⟨σ2,h3,fun A a w hi hdef Q hq=> ?_⟩;rw [List.length_cons,List.range'_succ,wpOps_cons];exact h2 A a w hi hdef _ Q fun A' a' w' hi' hd'=>h4 A' a' w' hi' hd' Q hq
def Ex.out:Ex→Exit
 | .normal=>.normal
 | .exit id=>.exit id
 | .goto l=>.goto l
 | .ret=>.ret
def zii (X:Ctx) (c:Code) (σ:St) (e:Ex) (σ':St):Prop:=
 ∀(A:Fr) (a:Act) (w:World) (Q:Exit→Act→World→Prop),Inv X A σ a.tmps w→a.defers=[]→(∀A' a' w',Inv X A' σ' a'.tmps w'→a'.defers=[]→Q e.out a' w')→c.wp X.P Q a w
def qfp (P:Program) (c:Code) (Q:Exit→Act→World→Prop) (a:Act) (w:World):Prop:=
 ∀(b:Frame) (k:List Item) (cs:List Frame),∃e a' w',Q e a' w'∧Arrives P (lone (b.at a (.code c::.inLoop c::k)) cs w) b k cs e a' w'
theorem qfp.wp {P:Program} {c:Code} {Q:Exit→Act→World→Prop} {a:Act} {w:World} (h:qfp P c Q a w):(Code.loop c).wp P Q a w:=fun b k cs=>by obtain ⟨e,a',w',hq,harr⟩:=h b k cs;exact ⟨e,a',w',hq,.of_steps (.one step_loop) harr⟩
theorem qfp.pass {P:Program} {c:Code} {Q:Exit→Act→World→Prop} {a:Act} {w:World} (h:c.wp P (Exit.then (qfp P c Q) Q) a w):qfp P c Q a w:=fun b k cs=>by
 obtain ⟨e,a₁,w₁,hq,harr⟩:=h b (.inLoop c::k) cs;cases e with
 |normal=>obtain ⟨e₂,a₂,w₂,hq₂,harr₂⟩:=hq b k cs;exact ⟨e₂,a₂,w₂,hq₂,.of_steps (Steps.trans harr (.one step_inLoop)) harr₂⟩
 |exit id=>exact ⟨_,a₁,w₁,hq,.pass (x:=.inLoop c) rfl (fun _ _=>.inl (by simp)) harr⟩
 |goto l=>exact ⟨_,a₁,w₁,hq,.pass (x:=.inLoop c) rfl (fun _ _=>.inl (by simp)) harr⟩
 |ret=>exact ⟨_,a₁,w₁,hq,.pass (x:=.inLoop c) rfl (fun _ _=>.inl (by simp)) harr⟩
 |panic ch=>exact ⟨_,a₁,w₁,hq,.pass (x:=.inLoop c) rfl (fun _ _=>.inl (by simp)) harr⟩
 |outgrown=>exact ⟨_,a₁,w₁,hq,.pass (x:=.inLoop c) rfl (fun _ _=>.inl (by simp)) harr⟩
def zlw (P:Program) (c rest:Code) (Q:Exit→Act→World→Prop) (a:Act) (w:World):Prop:=
 ∀(b:Frame) (k:List Item) (cs:List Frame),∃e a' w',Q e a' w'∧Arrives P (lone (b.at a (.code rest::.inScope c::k)) cs w) b k cs e a' w'
def Exit.back (c:Code) (l:Nat) (J:Act→World→Prop) (Q:Exit→Act→World→Prop):Exit→Act→World→Prop
 | .goto l',a,w=>(l'=l∧J a w)∨(findLabel c l'=none∧Q (.goto l') a w)
 |e,a,w=>Q e a w
theorem zlw.pass {P:Program} {c rest rest':Code} {l:Nat} (hl:findLabel c l=some rest') {Q:Exit→Act→World→Prop} {a:Act} {w:World} (h:rest.wp P (Exit.back c l (zlw P c rest' Q) Q) a w):zlw P c rest Q a w:=fun b k cs=>by
 obtain ⟨e,a₁,w₁,hq,harr⟩:=h b (.inScope c::k) cs;cases e with
 |normal=>exact ⟨.normal,a₁,w₁,hq,Steps.trans harr (.one step_inScope)⟩
 |exit id=>exact ⟨.exit id,a₁,w₁,hq,fun k' hk=>harr k' (by simp [exitTo,hk])⟩
 |goto l'=>
  rcases hq with ⟨rfl,hJ⟩|⟨hn,hq⟩
  ·obtain ⟨e₂,a₂,w₂,hq₂,harr₂⟩:=hJ b k cs;exact ⟨e₂,a₂,w₂,hq₂,.of_steps (harr _ (by simp [gotoIn,hl])) harr₂⟩
  ·exact ⟨.goto l',a₁,w₁,hq,fun k' hk=>harr k' (by simp [gotoIn,hn,hk])⟩
 |ret=>exact ⟨_,a₁,w₁,hq,harr⟩
 |panic ch=>exact ⟨_,a₁,w₁,hq,harr⟩
 |outgrown=>exact ⟨_,a₁,w₁,hq,harr⟩
theorem zlw.wp {P:Program} {c:Code} {Q:Exit→Act→World→Prop} {a:Act} {w:World} (h:zlw P c c Q a w):(Code.scope c).wp P Q a w:=fun b k cs=>by obtain ⟨e,a',w',hq,harr⟩:=h b k cs;exact ⟨e,a',w',hq,.of_steps (.one step_scope) harr⟩
theorem zlw.straight {P:Program} {c:Code} {Q:Exit→Act→World→Prop} {a:Act} {w:World} (h:c.wp P (fun e a w=>match e with| .goto l'=>findLabel c l'=none∧Q (.goto l') a w|e=>Q e a w) a w):(Code.scope c).wp P Q a w:=fun b k cs=>by
 obtain ⟨e,a₁,w₁,hq,harr⟩:=h b (.inScope c::k) cs;cases e with
 |normal=>exact ⟨.normal,a₁,w₁,hq,.head step_scope (Steps.trans harr (.one step_inScope))⟩
 |exit id=>exact ⟨.exit id,a₁,w₁,hq,fun k' hk=>.head step_scope (harr k' (by simp [exitTo,hk]))⟩
 |goto l'=>exact ⟨.goto l',a₁,w₁,hq.2,fun k' hk=>.head step_scope (harr k' (by simp [gotoIn,hq.1,hk]))⟩
 |ret=>exact ⟨_,a₁,w₁,hq,.of_steps (.one step_scope) harr⟩
 |panic ch=>exact ⟨_,a₁,w₁,hq,.of_steps (.one step_scope) harr⟩
 |outgrown=>exact ⟨_,a₁,w₁,hq,.of_steps (.one step_scope) harr⟩
theorem qgt:∀{c:Code} {l:Nat},l∈zjc c→∃rest,findLabel c l=some rest
 | .seq a b,l,h=>by
   simp only [zjc,List.mem_append] at h;simp only [findLabel];cases ha:findLabel a l with
   |some rest=>exact ⟨_,rfl⟩
   |none=>
    rcases h with h|h
    ·obtain ⟨rest,hr⟩:=qgt h;rw [hr] at ha;cases ha
    ·exact qgt h
 | .label l',l,h=>by simp only [zjc,List.mem_singleton] at h;subst h;exact ⟨.skip,by simp [findLabel]⟩
 | .skip,l,h| .region ..,l,h| .cond ..,l,h| .block ..,l,h| .loop ..,l,h| .scope ..,l,h| .exit ..,l,h| .goto ..,l,h| .ret,l,h| .rangeFunc ..,l,h| .refuse ..,l,h=>by simp [zjc] at h
theorem ztk:∀{c:Code} {l:Nat},l∉zjc c→findLabel c l=none
 | .seq a b,l,h=>by simp only [zjc,List.mem_append,not_or] at h;simp only [findLabel,ztk h.1,ztk h.2]
 | .label l',l,h=>by simp only [zjc,List.mem_singleton] at h;simp [findLabel,Ne.symm h]
 | .skip,l,h| .region ..,l,h| .cond ..,l,h| .block ..,l,h| .loop ..,l,h| .scope ..,l,h| .exit ..,l,h| .goto ..,l,h| .ret,l,h| .rangeFunc ..,l,h| .refuse ..,l,h=>by simp [findLabel]
theorem qsf {R:Type} {i:Nat} {K:Ex→Option R} {r:R}:∀{l:List Ex} {j:Nat} {e:Ex},qco e l j=some i→qmz i K l j=some r→K e=some r
 |[],j,e,h1,h2=>by simp [qco] at h1
 |[x],j,e,h1,h2=>by
  simp only [qco] at h1;split at h1
  ·rename_i hx;subst hx;exact h2
  ·cases h1
 |x::x'::l,j,e,h1,h2=>by
  rw [qco] at h1;simp only [qmz] at h2;split at h1
  ·rename_i hx;cases h1;rw [Nat.beq_refl] at h2;subst hx;exact h2
  ·have hge:∀{l:List Ex} {j i:Nat},qco e l j=some i→j≤i:=by
    intro l
    induction l with
    |nil=>intro j i h;simp [qco] at h
    |cons y l ih=>
     intro j i h;rw [qco] at h;split at h
     ·cases h;exact Nat.le_refl _
     ·have:=ih h;omega
   have:=hge h1;have hne:Nat.beq i j=false:=by
    cases hb:Nat.beq i j with
    |false=>rfl
    |true=>have:=Nat.eq_of_beq_eq_true hb;omega
   rw [hne] at h2;exact qsf h1 h2
end
theorem qta {d:Nat} {l:List Nat} (hl:∀n∈l,n/64=d) {c:PC} (hc:d∉c.refs) {h:Nat→Option Bool} (hh:∀n,n∉l→h n=none):c.zcs h=c:=by
 cases c with
 |slice e t xs g=>
  cases g with
  |own n=>
   have:n∉l:=fun hn=>hc (by rw [←hl n hn];exact List.mem_singleton.2 rfl)
   simp [PC.zcs,hh n this]
  |_=>rfl
 |elemT u g i o=>
  have:g∉l:=fun hn=>hc (by rw [←hl g hn];exact List.mem_singleton.2 rfl)
  simp [PC.zcs,hh g this]
 |_=>rfl
theorem qxb {d:Nat} {c:PC} (hc:d∉c.refs):PC.qkn d c=c:=by
 cases c with
 |box d' o=>
  have:¬d'=d:=fun e=>hc (by rw [e];exact List.mem_singleton.2 rfl)
  have hb:Nat.beq d' d=false:=by
   cases h:Nat.beq d' d with
   |false=>rfl
   |true=>exact absurd (Nat.eq_of_beq_eq_true h) this
  simp [PC.qkn,hb]
 |pin br f=>
  have:¬3=d:=fun e=>hc (by rw [←e];exact List.mem_singleton.2 rfl)
  have hb:Nat.beq 3 d=false:=by
   cases h:Nat.beq 3 d with
   |false=>rfl
   |true=>exact absurd (Nat.eq_of_beq_eq_true h) this
  simp only [PC.qkn,hb,cond_false]
 |pinp br f=>
  have:¬3=d:=fun e=>hc (by rw [←e];exact List.mem_singleton.2 rfl)
  have hb:Nat.beq 3 d=false:=by
   cases h:Nat.beq 3 d with
   |false=>rfl
   |true=>exact absurd (Nat.eq_of_beq_eq_true h) this
  simp only [PC.qkn,hb,cond_false]
 |_=>rfl
theorem zzj {f:PC→PC} {cs:List PC} (h:∀c∈cs,f c=c):cs.map f=cs:=by
 induction cs with
 |nil=>rfl
 |cons c cs ih=>rw [List.map_cons,h c (List.mem_cons_self ..),ih fun c hc=>h c (List.mem_cons_of_mem _ hc)]
theorem SV.zzj {f:PC→PC} {s:SV} (h:∀c∈s.cells,f c=c):s.map f=s:=by
 cases s with
 |one c=>simp only [SV.map,h c (List.mem_singleton.2 rfl)]
 |agg cs=>exact congrArg SV.agg (Go.Sv.zzj h)
theorem PV.zzj {f:PC→PC} {d:Nat} {p:PV} (hp:d∉p.refs) (h:∀c,d∉c.refs→f c=c):p.map f=p:=by
 have sv:∀s:SV,d∉s.refs→s.map f=s:=fun s hs=>SV.zzj fun c hc=>h c fun hd=>hs (List.mem_flatMap.2 ⟨c,hc,hd⟩)
 cases p with
 |undef=>rfl
 |void=>rfl
 |sv s=>simp only [PV.map,sv s hp]
 |tup l=>
  simp only [PV.map]
  congr 1
  induction l with
  |nil=>rfl
  |cons s l ih=>rw [List.map_cons,sv s fun hd=>hp (List.mem_flatMap.2 ⟨s,List.mem_cons_self ..,hd⟩),ih fun hd=>hp (by obtain ⟨s',h1,h2⟩:=List.mem_flatMap.1 hd;exact List.mem_flatMap.2 ⟨s',List.mem_cons_of_mem _ h1,h2⟩)]
theorem qtr:∀{l:List (Nat×PV)} {p:Nat×PV} {q:Nat},p∈l→q∈p.2.refs→q∈ylh l
 |(i,v)::r,p,q,h,hq=>by
  rcases List.mem_cons.1 h with rfl|h
  ·exact List.mem_append_left _ hq
  ·exact List.mem_append_right _ (qtr h hq)
theorem quh:∀{l:List (Nat×(TypeId×List PC))} {p:Nat×(TypeId×List PC)},p∈l→p.1∈ydk l∧∀q∈p.2.2.flatMap PC.refs,q∈ydk l
 |(d,(t,cs))::r,p,h=>by
  rcases List.mem_cons.1 h with rfl|h
  ·exact ⟨List.mem_cons_self ..,fun q hq=>List.mem_cons_of_mem _ (List.mem_append_left _ hq)⟩
  ·obtain ⟨h1,h2⟩:=quh h;exact ⟨List.mem_cons_of_mem _ (List.mem_append_right _ h1),fun q hq=>List.mem_cons_of_mem _ (List.mem_append_right _ (h2 q hq))⟩
structure Free (d:Nat) (σ:St):Prop where
 ent:∀p∈σ.s,d∉p.2.refs
 box:∀p∈σ.b,d≠p.1∧∀c∈p.2.2,d∉c.refs
theorem Free.map {d:Nat} {σ:St} (h:Free d σ) {f:PC→PC} (hf:∀c,d∉c.refs→f c=c):σ.map f=σ:=by
 obtain ⟨s,b⟩:=σ;simp only [St.map]
 congr 1
 ·have:∀l:List (Nat×PV),(∀p∈l,d∉p.2.refs)→l.map (fun p=>(p.1,p.2.map f))=l:=fun l=>by
   induction l with
   |nil=>intro _;rfl
   |cons p l ih=>intro hl;rw [List.map_cons,PV.zzj (hl p (List.mem_cons_self ..)) hf,ih fun q hq=>hl q (List.mem_cons_of_mem _ hq)]
  exact this s h.ent
 ·have:∀l:List (Nat×(TypeId×List PC)),(∀p∈l,∀c∈p.2.2,d∉c.refs)→l.map (fun p=>(p.1,(p.2.1,p.2.2.map f)))=l:=fun l=>by
   induction l with
   |nil=>intro _;rfl
   |cons p l ih=>intro hl;rw [List.map_cons,Sv.zzj fun c hc=>hf c (hl p (List.mem_cons_self ..) c hc),ih fun q hq=>hl q (List.mem_cons_of_mem _ hq)]
  exact this b fun p hp=>(h.box p hp).2
theorem Free.kill {d:Nat} {σ:St} (h:Free d σ) {l:List Nat} (hl:∀n∈l,n/64=d):σ.kill l=σ:=by rw [St.yla];exact h.map fun c hc=>qta hl hc fun n hn=>by rw [zmi hn];rfl
theorem Free.qbz {d:Nat} {σ:St} (h:Free d σ) {tid:TypeId} {cs:List PC} (hc:∀c∈cs,d∉c.refs):σ.qbz d tid cs={s:=(d,.sv (.one (.box d 0)))::σ.s,b:=(d,(tid,cs))::σ.b}:=by
 unfold St.qbz;rw [h.map fun c hc=>qxb hc,Sv.zzj fun c hc'=>qxb (hc c hc')];have:delB σ.b d=σ.b:=by
  have hb:=h.box;generalize σ.b=b at hb
  induction b with
  |nil=>rfl
  |cons p b ih=>
   obtain ⟨j,v⟩:=p;have hne:=(hb _ (List.mem_cons_self ..)).1;have hbq:Nat.beq j d=false:=by
    cases h:Nat.beq j d with
    |false=>rfl
    |true=>exact absurd (Nat.eq_of_beq_eq_true h).symm hne
   simp only [delB,hbq,cond_false];rw [ih fun p hp=>hb p (List.mem_cons_of_mem _ hp)]
 simp only [this]
theorem zak (σ:St) (d:Nat) (v:PV):(σ.put (some d) v).get d=v:=by rw [St.get_put];simp
section
variable {E:Env} {run:Runs E}
theorem ykw {σ τ:St} {t:TypeId} {p:PV} (hp:∀u g n o,p≠.sv (.one (.elemT u g n o))) (hb:∀q∈p.refs,getB τ.b q=getB σ.b q) {R:Type} (K:SV→Option R):zkf E τ t p K=zkf E σ t p K:=by
 unfold zkf;split
 ·rfl
 ·split
  ·rename_i d off;rw [hb d (List.mem_singleton.2 rfl)]
  ·rfl
  ·rfl
  ·exact absurd rfl (hp _ _ _ _)
  ·rfl
theorem qct {σ τ:St} {place:Nat→Option (Nat×TypeId)}:∀{parts:List (Nat×Operand)} (cs:List PC),(∀p∈parts,τ.ev p.2=σ.ev p.2)→zog E place τ parts cs=zog E place σ parts cs
 |[],cs,h=>rfl
 |(i,x)::r,cs,h=>by
  have h0:=h (i,x) (List.mem_cons_self ..);simp only at h0;simp only [zog,h0];split
  ·rfl
  ·split
   ·split
    ·exact qct _ fun p hp=>h p (List.mem_cons_of_mem _ hp)
    ·rfl
   ·rfl
theorem qjx {σ τ:St} {e:TypeId} {u:Ty}:∀{parts:List (Nat×Operand)} (n i:Nat),(∀p∈parts,τ.ev p.2=σ.ev p.2)→zvy E e u τ parts n i=zvy E e u σ parts n i
 |[],n,i,h=>rfl
 |(j,x)::r,0,i,h=>rfl
 |(j,x)::r,n+1,i,h=>by have h0:=h (j,x) (List.mem_cons_self ..);simp only at h0;simp only [zvy,h0,qjx n (i+1) fun p hp=>h p (List.mem_cons_of_mem _ hp)]
theorem qfb {σ τ:St}:∀{parts:List (Nat×Operand)},(∀p∈parts,τ.ev p.2=σ.ev p.2)→zod τ parts=zod σ parts
 |[],h=>rfl
 |(j,x)::r,h=>by have h0:=h (j,x) (List.mem_cons_self ..);simp only at h0;simp only [zod,h0,qfb fun p hp=>h p (List.mem_cons_of_mem _ hp)]
theorem qtq {σ τ:St}:∀{l:List Operand},(∀x∈l,τ.ev x=σ.ev x)→qlw τ l=qlw σ l
 |[],h=>rfl
 |x::r,h=>by simp only [qlw,h x (List.mem_cons_self ..),qtq fun y hy=>h y (List.mem_cons_of_mem _ hy)]
theorem qbx {σ τ:St} {x:Option Operand} (h:∀y,x=some y→τ.ev y=σ.ev y):zkd τ x=zkd σ x:=by
 cases x with
 |none=>rfl
 |some y=>simp only [zkd,h y rfl]
theorem qxr {σ τ:St} {k:Kd} {s:SV} (hb:∀q∈s.refs,getB τ.b q=getB σ.b q):k.pack τ s=k.pack σ s:=by
 have hbx:∀d o,s= .one (.box d o)→getB τ.b d=getB σ.b d:=fun d o e=>hb d (by rw [e];exact List.mem_flatMap.2 ⟨_,List.mem_singleton.2 rfl,List.mem_singleton.2 rfl⟩)
 cases k<;>cases s<;>try rfl
 all_goals
  rename_i c;cases c<;>try rfl
 all_goals first
  |(rename_i d o;simp only [Kd.pack,hbx d o rfl];done)
  |(rename_i d o;cases o<;>simp only [Kd.pack,hbx d _ rfl];done)
  |(rename_i g;cases g<;>rfl)
theorem qiz {σ τ:St}:∀{ks:List Kd} {l:List SV},(∀s∈l,∀q∈s.refs,getB τ.b q=getB σ.b q)→zdl τ ks l=zdl σ ks l
 |[],l,h=>by cases l<;>rfl
 |[k],[],h=>rfl
 |[k],[s],h=>qxr (h s (List.mem_cons_self ..))
 |[k],s::s'::l,h=>rfl
 |k::k'::ks,[],h=>rfl
 |k::k'::ks,s::ss,h=>by rw [zdl,zdl,qxr (h s (List.mem_cons_self ..)),qiz fun t ht=>h t (List.mem_cons_of_mem _ ht)]
theorem yqs {σ τ:St} {k:Kd} {s:SV} {i j:Nat} {h:Hand} (hb:∀q∈s.refs,getB τ.b q=getB σ.b q):k.hand τ i j s h=k.hand σ i j s h:=by
 have hbx:∀d o,s= .one (.box d o)→getB τ.b d=getB σ.b d:=fun d o e=>hb d (by rw [e];exact List.mem_flatMap.2 ⟨_,List.mem_singleton.2 rfl,List.mem_singleton.2 rfl⟩)
 cases k<;>cases s<;>try rfl
 all_goals
  rename_i c;cases c<;>try rfl
 all_goals first
  |(rename_i d o;simp only [Kd.hand,hbx d o rfl];done)
  |(rename_i d o;cases o<;>simp only [Kd.hand,hbx d _ rfl];done)
  |(rename_i g;cases g<;>rfl)
theorem qjp {σ τ:St}:∀{ks:List (Nat×Nat×Kd)} {l:List SV} {h:Hand},(∀s∈l,∀q∈s.refs,getB τ.b q=getB σ.b q)→zef τ ks l h=zef σ ks l h
 |[],l,h,hb=>by cases l<;>rfl
 |(i,j,k)::ks,[],h,hb=>rfl
 |(i,j,k)::ks,s::ss,h,hb=>by
  simp only [zef,yqs (hb s (List.mem_cons_self ..))];split
  ·exact qjp fun t ht=>hb t (List.mem_cons_of_mem _ ht)
  ·rfl
theorem yhl {σ τ:St} {ks:List (Nat×Nat×Kd)} {l:List SV} (hb:∀s∈l,∀q∈s.refs,getB τ.b q=getB σ.b q):handed τ ks l=handed σ ks l:=by unfold handed;rw [qjp hb]
end
section
variable {E:Env} {run:Runs E}
theorem xdd (op:BinOp) (t:TypeId) (a b:SV) (σ τ:St) (d:Nat):binK E op t a b (fun c=>some (τ.put (some d) (.sv (.one c))))=(binK E op t a b fun c=>some ((σ.put (some d) (.sv (.one c))).get d)).bind fun pv=>some (τ.put (some d) pv):=by
 rw [qki (K:=fun c=>some (τ.put (some d) (.sv (.one c)))),qki (K:=fun c=>some ((σ.put (some d) (.sv (.one c))).get d)),Option.bind_assoc]
 congr 1
 funext c;simp [zak]
theorem yvs {σ τ:St} {t:TypeId} {p:PV} (hp:∀u g n o,p≠.sv (.one (.elemT u g n o))) (hb:∀q∈p.refs,getB τ.b q=getB σ.b q) (d:Nat):
 zkf E τ t p (fun c=>some (τ.put (some d) (.sv c)))=(zkf E σ t p fun c=>some ((σ.put (some d) (.sv c)).get d)).bind fun pv=>some (τ.put (some d) pv):=by
 rw [ykw hp hb,zxn (K:=fun c=>some (τ.put (some d) (.sv c))),zxn (K:=fun c=>some ((σ.put (some d) (.sv c)).get d)),Option.bind_assoc]
 congr 1
 funext c;simp [zak]
theorem ydc (c:Bool) (σ τ:St) (l:List Nat) (τ' σ':St) (d:Nat) (v:PV) (h:τ'=τ.kill l):(bif c then some (τ'.put (some d) v) else none)=(bif c then some ((σ'.put (some d) v).get d) else none).bind fun pv=>some ((τ.kill l).put (some d) pv):=by subst h;cases c<;>simp [zak]
theorem qus {σ τ:St} {ty e1:TypeId} {u1:Ty} {xs:List u1.den} {g:Tag} {x:PV} (d:Nat) (l:List Nat) (hg:(g= .exact∧l=[])∨(g= .nil∧l=[zcc d 0 0])):
 zwh E τ (some d) ty (.sv (.one (.slice e1 u1 xs g))) x some=(zwh E σ (some d) ty (.sv (.one (.slice e1 u1 xs g))) x fun σ'=>some (σ'.get d)).bind fun pv=>some ((τ.kill l).put (some d) pv):=by
 unfold zwh;cases E.ti ty with
 |none=>rfl
 |some i=>
  simp only;generalize i.d=D;generalize i.ty=T;cases D with
  |slice e=>
   cases T with
   |none=>rfl
   |some T=>
    cases T with
    |slice e' u=>
     simp only;cases E.ti e with
     |none=>rfl
     |some ie=>
      simp only;by_cases hc:e'=e∧0<ie.size∧ie.size=u.sz
      ·rw [if_pos hc,if_pos hc];by_cases he:e1=e∧u1=u
       ·obtain ⟨rfl,rfl⟩:=he;simp only [and_self,dite_true];rcases hg with ⟨rfl,rfl⟩|⟨rfl,rfl⟩
        ·split
         ·rename_i xs' g' ys h1 h2;cases h1;exact ydc _ σ τ [] τ σ d _ rfl
         ·rfl
        ·split
         ·rename_i xs' g' ys h1 h2;cases h1;exact ydc _ σ τ [zcc d 0 0] _ _ d _ rfl
         ·rfl
       ·simp only [he,dite_false];rfl
      ·rw [if_neg hc,if_neg hc];rfl
    |_=>rfl
  |_=>rfl
theorem ypg {σ τ:St} {i:TI} {x:PV} {lo hi mx:Option Operand} (h1:zkd τ lo=zkd σ lo) (h2:zkd τ hi=zkd σ hi) (h3:zkd τ mx=zkd σ mx) (hx:∀e t xs n,x≠.sv (.one (.slice e t xs (.own n)))) (d:Nat):
 qeq E i τ (some d) x lo hi mx some=(qeq E i σ (some d) x lo hi mx fun σ'=>some (σ'.get d)).bind fun pv=>some (τ.put (some d) pv):=by
 have hn:∀e t xs g,x= .sv (.one (.slice e t xs g))→g.names=[]:=fun e t xs g e1=>by
  cases g with
  |own n=>exact absurd e1 (hx e t xs n)
  |_=>rfl
 unfold qeq;rw [h1,h2,h3];split
 ·split
  ·simp only;split
   ·cases zbe _ _ _<;>simp [zak]
   ·rfl
  ·rename_i e t xs g;have:=hn e t xs g rfl;simp only [this,St.release];split
   ·split
    ·cases zbe _ _ _<;>simp [zak]
    ·split
     ·exact ydc _ σ τ [] τ σ d _ rfl
     ·rfl
   ·rfl
  ·split
   ·split
    ·simp [zak]
    ·rfl
   ·rfl
  ·rfl
 ·rfl
theorem qza {ts:List TypeId} {l:List SV}:∀s∈zfv E ts l,∀q∈s.refs,∃s'∈l,q∈s'.refs:=by
 induction ts generalizing l with
 |nil=>intro s hs q hq;cases l<;>exact ⟨s,hs,hq⟩
 |cons t ts ih=>
  intro s hs q hq;cases l with
  |nil=>cases hs
  |cons s0 l=>
   simp only [zfv,List.mem_cons] at hs;rcases hs with rfl|hs
   ·refine ⟨s0,List.mem_cons_self ..,?_⟩;split at hq
    ·rename_i s' he;unfold Env.typed at he;split at he
     ·split at he
      ·split at he
       ·cases he;simp [SV.refs,SV.cells,PC.refs] at hq
       ·cases he;simp [SV.refs,SV.cells,PC.refs] at hq
      ·cases he;simp [SV.refs,SV.cells,PC.refs] at hq
     ·cases he;exact hq
    ·exact hq
   ·obtain ⟨s',h1,h2⟩:=ih s hs q hq;exact ⟨s',List.mem_cons_of_mem _ h1,h2⟩
theorem qpy:∀(t:Ty) (x:t.den),∀c∈t.toPC x,c.refs=[]
 | .bool,x,c,hc=>by rw [List.mem_singleton.1 hc];rfl
 | .int _,x,c,hc=>by rw [List.mem_singleton.1 hc];rfl
 | .str,x,c,hc=>by rw [List.mem_singleton.1 hc];rfl
 | .fn,x,c,hc=>by rw [List.mem_singleton.1 hc];rfl
 | .slice _ _,x,c,hc=>by rw [List.mem_singleton.1 hc];rfl
 | .pair a b,x,c,hc=>by
   rcases List.mem_append.1 hc with hc|hc
   ·exact qpy a _ c hc
   ·exact qpy b _ c hc
theorem yrb (c:Cap):∀q∈(qkg c).refs,False:=by
 unfold qkg;cases c.ptr with
 |true=>intro q hq;simp [SV.refs,SV.cells,PC.refs] at hq
 |false=>
  intro q hq;simp only [cond_false,Kd.unpack,zsm] at hq;have key:∀s:SV,(∀c'∈s.cells,c'∈c.t.toPC c.x)→q∈s.refs→False:=fun s hs hq=>by obtain ⟨c',h1,h2⟩:=List.mem_flatMap.1 hq;rw [qpy _ _ c' (hs c' h1)] at h2;cases h2
  cases hp:c.t.zke with
  |true=>simp only [hp,cond_true] at hq;exact key (.agg (c.t.toPC c.x)) (fun c' h=>h) hq
  |false=>
   simp only [hp,cond_false] at hq;split at hq
   ·rename_i c0 he;exact key (.one c0) (fun c' h=>by rw [he];exact h) hq
   ·exact key (.agg (c.t.toPC c.x)) (fun c' h=>h) hq
theorem qyg {σ:St}:∀{l:List Operand} {args:List SV},qlw σ l=some args→∀s∈args,∀q∈s.refs,∃x∈l,q∈(σ.ev x).refs
 |[],args,h,s,hs,q,hq=>by simp only [qlw,Option.some.injEq] at h;subst h;cases hs
 |x::r,args,h,s,hs,q,hq=>by
  simp only [qlw] at h;split at h
  ·rename_i s0 l0 h1 h2;cases h;rcases List.mem_cons.1 hs with rfl|hs
   ·exact ⟨x,List.mem_cons_self ..,by rw [h1];exact hq⟩
   ·obtain ⟨y,hy,hq'⟩:=qyg h2 s hs q hq;exact ⟨y,List.mem_cons_of_mem _ hy,hq'⟩
  ·cases h
theorem zzw {α β:Type} (b:Bool) (x:Option α) (f:α→Option β):(bif b then none else x).bind f=bif b then none else x.bind f:=by cases b<;>rfl
theorem yvc {σ τ:St} {o:Oper} {d:Nat} (hd:o.dst=some d) (hv:okV E σ o d=true) (hev:∀x∈o.op.operands.toList,τ.ev x=σ.ev x) (hb:∀x∈o.op.operands.toList,∀q∈(σ.ev x).refs,getB τ.b q=getB σ.b q):
 ∃l,(∀n∈l,n/64=d)∧opK E run τ o some=(opK E run σ o fun σ'=>some (σ'.get d)).bind fun pv=>some ((τ.kill l).put (some d) pv):=by
 cases ho:o.op with
 |move x=>have e:=hev x (by simp [ho,Op.operands]);refine ⟨[],by simp,?_⟩;simp only [opK,ho,hd,e,Option.bind_some,zak,St.kill]
 |assign x=>have e:=hev x (by simp [ho,Op.operands]);refine ⟨[],by simp,?_⟩;simp only [opK,ho,hd,e,Option.bind_some,zak,St.kill]
 |pick c x y=>
  have e1:=hev c (by simp [ho,Op.operands]);have e2:=hev x (by simp [ho,Op.operands]);have e3:=hev y (by simp [ho,Op.operands]);refine ⟨[],by simp,?_⟩;simp only [opK,ho,hd,e1,e2,e3,St.kill];split
  ·rename_i t _;cases t<;>simp [zak]
  ·rfl
 |build t p=>
  have e:∀q∈p.toList,τ.ev q.2=σ.ev q.2:=fun q hq=>hev q.2 (by simp only [ho,Op.operands];exact List.mem_map.2 ⟨q,hq,rfl⟩)
  refine ⟨[],by simp,?_⟩;simp only [opK,ho,hd,St.kill,qct _ e]
  repeat' (first|rfl|(simp only [Option.bind_some,zak];done)|split)
 |buildSlice t n p=>
  have e:∀q∈p.toList,τ.ev q.2=σ.ev q.2:=fun q hq=>hev q.2 (by simp only [ho,Op.operands];exact List.mem_map.2 ⟨q,hq,rfl⟩)
  have hp:zod σ p.toList=[]:=by
   simp only [okV,ho] at hv;split at hv
   ·assumption
   ·cases hv
  refine ⟨[zcc d 0 0],fun n hn=>by rw [List.mem_singleton.1 hn];unfold zcc;omega,?_⟩;simp only [opK,ho,hd,qjx _ _ e,qfb e,hp,St.release]
  repeat' (first|rfl|(simp only [Option.bind_some,zak];done)|split)
 |load t p=>
  have e:=hev p (by simp [ho,Op.operands]);have hbp:=hb p (by simp [ho,Op.operands]);have hne:∀u g n o,σ.ev p≠.sv (.one (.elemT u g n o)):=fun u g n o h=>by simp [okV,ho,h] at hv
  refine ⟨[],by simp,?_⟩;simp only [opK,ho,hd,e,St.kill];exact yvs hne hbp d
 |binOp op t x y z=>
  have e1:=hev x (by simp [ho,Op.operands]);have e2:=hev y (by simp [ho,Op.operands]);refine ⟨[],by simp,?_⟩;simp only [opK,ho,hd,e1,e2,St.kill];split
  ·exact xdd ..
  ·rfl
 |unOp op t x=>
  have e:=hev x (by simp [ho,Op.operands]);refine ⟨[],by simp,?_⟩;simp only [opK,ho,hd,e,St.kill]
  repeat' (first|rfl|(simp only [Option.bind_some,zak];done)|split)
 |convert a b x=>
  have e:=hev x (by simp [ho,Op.operands]);refine ⟨[],by simp,?_⟩;simp only [opK,ho,hd,e,St.kill]
  repeat' (first|rfl|(simp only [Option.bind_some,zak];done)|split)
 |fieldAddr t p f=>
  have e:=hev p (by simp [ho,Op.operands]);refine ⟨[],by simp,?_⟩;simp only [opK,ho,hd,e,St.kill]
  repeat' (first|rfl|(simp only [Option.bind_some,zak];done)|(simp only [zzw,Option.bind_some,zak];done)|split)
 |indexAddr t x ix=>
  have e1:=hev x (by simp [ho,Op.operands]);have e2:=hev ix (by simp [ho,Op.operands]);refine ⟨[],by simp,?_⟩;simp only [opK,ho,hd,e1,e2,St.kill]
  repeat' (first|rfl|(simp only [Option.bind_some,zak];done)|(cases zaa _ _<;>simp only [cond_true,cond_false,Option.bind_none])|(simp only [zzw,Option.bind_some,zak];done)|split)
 |index t x ix=>
  have e1:=hev x (by simp [ho,Op.operands]);have e2:=hev ix (by simp [ho,Op.operands]);refine ⟨[],by simp,?_⟩;simp only [opK,ho,hd,e1,e2,St.kill]
  repeat' (first|rfl|(simp only [Option.bind_some,zak];done)|(cases zaa _ _<;>simp only [cond_true,cond_false,Option.bind_none])|split)
 |extract t ix=>
  have e:=hev t (by simp [ho,Op.operands]);refine ⟨[],by simp,?_⟩;simp only [opK,ho,hd,e,St.kill]
  repeat' (first|rfl|(simp only [Option.bind_some,zak];done)|split)
 |lookup t m k ok=>
  have e1:=hev m (by simp [ho,Op.operands]);have e2:=hev k (by simp [ho,Op.operands]);refine ⟨[],by simp,?_⟩;cases ok<;>simp only [opK,ho,hd,e1,e2,St.kill]
  all_goals repeat' (first|rfl|(simp only [Option.bind_some,zak];done)|split)
 |nilCheck x=>
  have e:=hev x (by simp [ho,Op.operands]);refine ⟨[],by simp,?_⟩;simp only [opK,ho,hd,e,St.kill]
  repeat' (first|rfl|(simp only [Option.bind_some,zak];done)|(simp only [zzw,Option.bind_some,zak];done)|split)
 |slice t x lo hi mx=>
  have e:=hev x (by simp [ho,Op.operands]);have h1:zkd τ lo=zkd σ lo:=qbx fun y hy=>hev y (by simp [ho,hy,Op.operands])
  have h2:zkd τ hi=zkd σ hi:=qbx fun y hy=>hev y (by simp [ho,hy,Op.operands])
  have h3:zkd τ mx=zkd σ mx:=qbx fun y hy=>hev y (by simp [ho,hy,Op.operands])
  simp only [okV,ho,Bool.and_eq_true,Bool.not_eq_true'] at hv;have hne:∀e t xs n,σ.ev x≠.sv (.one (.slice e t xs (.own n))):=fun e t xs n h=>by simp [h] at hv
  refine ⟨[],by simp,?_⟩;simp only [opK,ho,hd,e,St.kill,hv.1,cond_false];split
  ·exact ypg h1 h2 h3 hne d
  ·rfl
 |call c=>
  cases hc:c.callee with
  |builtin b=>
   have hev':∀x∈c.args.toList,τ.ev x=σ.ev x:=fun x hx=>hev x (by simp only [ho,Op.operands,Call.operands,hc];simpa using hx)
   cases b with
   |len=>
    refine ⟨[],by simp,?_⟩;simp only [opK,ho,hd,hc,St.kill];split
    ·rename_i x ty hargs htys;rw [hev' x (by rw [hargs];exact List.mem_cons_self ..)]
     repeat' (first|rfl|(simp only [Option.bind_some,zak];done)|split)
    ·rfl
   |cap=>
    refine ⟨[],by simp,?_⟩;simp only [opK,ho,hd,hc,St.kill];split
    ·rename_i x ty hargs htys;rw [hev' x (by rw [hargs];exact List.mem_cons_self ..)]
     repeat' (first|rfl|(simp only [Option.bind_some,zak];done)|split)
    ·rfl
   |max=>
    refine ⟨[],by simp,?_⟩;simp only [opK,ho,hd,hc,St.kill];split
    ·rename_i x y hargs;rw [hev' x (by rw [hargs];simp),hev' y (by rw [hargs];simp)]
     repeat' (first|rfl|(simp only [Option.bind_some,zak];done)|split)
    ·rfl
   |min=>
    refine ⟨[],by simp,?_⟩;simp only [opK,ho,hd,hc,St.kill];split
    ·rename_i x y hargs;rw [hev' x (by rw [hargs];simp),hev' y (by rw [hargs];simp)]
     repeat' (first|rfl|(simp only [Option.bind_some,zak];done)|split)
    ·rfl
   |append=>
    simp only [okV,ho,hc] at hv;split at hv
    ·rename_i s x ty ty' hargs htys;simp only [Bool.and_eq_true,decide_eq_true_eq] at hv;obtain ⟨rfl,hv⟩:=hv;have es:=hev' s (by rw [hargs];simp);have ex:=hev' x (by rw [hargs];simp);split at hv
     ·rename_i e u xs hs;refine ⟨[],by simp,?_⟩;simp only [opK,ho,hd,hc,hargs,htys,if_true,es,ex,hs];exact qus d [] (.inl ⟨rfl,rfl⟩)
     ·rename_i e u xs hs;refine ⟨[zcc d 0 0],fun n hn=>by rw [List.mem_singleton.1 hn];unfold zcc;omega,?_⟩;simp only [opK,ho,hd,hc,hargs,htys,if_true,es,ex,hs];exact qus d [zcc d 0 0] (.inr ⟨rfl,rfl⟩)
     ·cases hv
    ·cases hv
   |_=>simp [okV,ho,hc] at hv
  |value f=>
   have ef:=hev f (by simp [ho,Op.operands,Call.operands,hc]);have hmem:∀x∈c.args.toList,x∈o.op.operands.toList:=fun x hx=>by simp only [ho,Op.operands,Call.operands,hc];simp;exact .inr (by simpa using hx)
   have hev':∀x∈c.args.toList,τ.ev x=σ.ev x:=fun x hx=>hev x (hmem x hx)
   have eargs:=qtq hev';simp only [okV,ho,hc] at hv;split at hv
   ·rename_i g caps args hf hargs;have hbs:∀s∈zfv E c.argTypes.toList args++caps.map qkg,∀q∈s.refs,getB τ.b q=getB σ.b q:=fun s hs q hq=>by
     rcases List.mem_append.1 hs with hs|hs
     ·obtain ⟨s',h1,h2⟩:=qza s hs q hq;obtain ⟨x,hx,hqx⟩:=qyg hargs s' h1 q h2;exact hb x (hmem x hx) q hqx
     ·obtain ⟨c',_,rfl⟩:=List.mem_map.1 hs;exact (yrb c' q hq).elim
    cases hio:(E.sig g).io with
    |true=>rw [hio] at hv;cases hv
    |false=>
     simp only [hio,cond_false] at hv;split at hv
     ·rename_i H hH;split at hv
      ·rename_i hsrc hrl;refine ⟨ownNames d 0 (E.sig g).res,fun n hn=>Nat.eq_of_beq_eq_true (List.all_eq_true.1 hv n hn),?_⟩;simp only [opK,ho,hd,hc,ef,eargs,hf,hargs,qww,qiz hbs,yhl hbs,hH];simp only [hio,cond_false]
       ·split
        ·rename_i x H' hp hH';cases hH';split
         ·cases ((E.sig g).res.all Kd.qcm||H.pm.isEmpty) with
          |false=>rfl
          |true=>
           simp only [cond_true,hsrc,hrl,St.kill,St.release,Option.bind_assoc]
           congr 1
           funext r;simp only [Option.bind_some,zak]
         ·rfl
        ·rfl
      ·cases hv
     ·cases hv
   ·rename_i q args hf hargs;refine ⟨[],by simp,?_⟩;simp only [opK,ho,hd,hc,ef,eargs,hf,hargs,St.kill];split
    ·rename_i i hti;simp only [hti] at hv;split
     ·rename_i t hty;simp only [hty] at hv;split at hv
      ·rename_i hrl;rw [hrl,Option.bind_assoc]
       congr 1
       funext r;simp only [Option.bind_some,zak,St.release]
      ·cases hv
     ·rfl
    ·rfl
   ·cases hv
  |invoke r n=>simp [okV,ho,hc] at hv
 |_=>simp [okV,ho] at hv
end
structure Rec where
 d:Nat
 pv:PV
 bx:Option (Nat×(TypeId×List PC))
def St.addR (σ:St) (f:Rec):St:={s:=(f.d,f.pv)::σ.s,b:=match f.bx with|some q=>q::σ.b|none=>σ.b}
structure Rep (σ0:St) (recs:List Rec) (S:Nat→Prop) (τ:St):Prop where
 get:∀t,(∀(q:Nat) f,recs[q]? =some f→S q→f.d≠t)→τ.get t=σ0.get t
 got:∀(q:Nat) f,recs[q]? =some f→S q→τ.get f.d=f.pv
 ent:∀p∈τ.s,p∈σ0.s∨∃(q:Nat) (f:Rec),recs[q]? =some f∧S q∧p=(f.d,f.pv)
 ent0:∀p∈σ0.s,p∈τ.s
 ent1:∀(q:Nat) f,recs[q]? =some f→S q→(f.d,f.pv)∈τ.s
structure RepB (b0:List (Nat×(TypeId×List PC))) (recs:List Rec) (S:Nat→Prop) (b:List (Nat×(TypeId×List PC))):Prop where
 get:∀t,(∀(q:Nat) f v,recs[q]? =some f→S q→f.bx=some v→v.1≠t)→getB b t=getB b0 t
 got:∀(q:Nat) f v,recs[q]? =some f→S q→f.bx=some v→(∀(q':Nat) f' v',recs[q']? =some f'→S q'→q<q'→f'.bx=some v'→v'.1≠v.1)→getB b v.1=some v.2
 ent:∀p∈b,p∈b0∨∃(q:Nat) (f:Rec),recs[q]? =some f∧S q∧f.bx=some p
def Apart (recs:List Rec):Prop:=∀(q q':Nat) (f f':Rec),recs[q]? =some f→recs[q']? =some f'→f.d=f'.d→q=q'
structure Eqv (σ τ:St):Prop where
 get:∀t,σ.get t=τ.get t
 box:∀t,getB σ.b t=getB τ.b t
 ent:∀p∈τ.s,p∈σ.s
theorem Inv.eqv {X:Ctx} {A:Fr} {σ τ:St} {tm:Array Value} {w:World} (h:Inv X A σ tm w) (e:Eqv σ τ):Inv X A τ tm w:=
 ⟨h.sz,h.kept,h.glob,fun i=>by rw [←e.get];exact h.slot i,fun d tid cs hd=>h.box d tid cs (by rw [e.box];exact hd),h.good,fun p hp=>h.ent p (e.ent p hp)⟩
theorem qtm (j:Nat) (v:PV) (l:List (Nat×PV)) (i:Nat):getS ((j,v)::l) i=if i=j then v else getS l i:=by
 simp only [getS];by_cases h:i=j
 ·subst h;simp [Nat.beq_refl]
 ·have:Nat.beq j i=false:=by
   cases hb:Nat.beq j i with
   |false=>rfl
   |true=>exact absurd (Nat.eq_of_beq_eq_true hb).symm h
  simp [this,h]
theorem zqk (j:Nat) (v:TypeId×List PC) (l:List (Nat×(TypeId×List PC))) (i:Nat):getB ((j,v)::l) i=if i=j then some v else getB l i:=by
 simp only [getB];by_cases h:i=j
 ·subst h;simp [Nat.beq_refl]
 ·have:Nat.beq j i=false:=by
   cases hb:Nat.beq j i with
   |false=>rfl
   |true=>exact absurd (Nat.eq_of_beq_eq_true hb).symm h
  simp [this,h]
theorem Rep.add {σ0 τ:St} {recs:List Rec} {S:Nat→Prop} (h:Rep σ0 recs S τ) (ha:Apart recs) {i:Nat} {f:Rec} (hf:recs[i]? =some f) (hi:¬S i):Rep σ0 recs (fun q=>S q∨q=i) (τ.addR f):=by
 have hg:∀t,(τ.addR f).get t=if t=f.d then f.pv else τ.get t:=fun t=>qtm _ _ _ _
 refine ⟨fun t ht=> ?_,fun q g hq hS=> ?_,fun p hp=> ?_,fun p hp=>List.mem_cons_of_mem _ (h.ent0 p hp),fun q g hq hS=> ?_⟩
 ·rw [hg,if_neg (fun e=>ht i f hf (.inr rfl) e.symm)];exact h.get t fun q g hq hS=>ht q g hq (.inl hS)
 ·rw [hg];rcases hS with hS|rfl
  ·rw [if_neg (fun e=>hi (ha q i g f hq hf e▸hS))];exact h.got q g hq hS
  ·rw [hf] at hq;cases hq;simp
 ·rcases List.mem_cons.1 hp with rfl|hp
  ·exact .inr ⟨i,f,hf,.inr rfl,rfl⟩
  ·rcases h.ent p hp with h1|⟨q,g,h1,h2,h3⟩
   ·exact .inl h1
   ·exact .inr ⟨q,g,h1,.inl h2,h3⟩
 ·rcases hS with hS|rfl
  ·exact List.mem_cons_of_mem _ (h.ent1 q g hq hS)
  ·rw [hf] at hq;cases hq;exact List.mem_cons_self ..
theorem RepB.add {b0:List (Nat×(TypeId×List PC))} {σ:St} {recs:List Rec} {S:Nat→Prop} (h:RepB b0 recs S σ.b) {i:Nat} {f:Rec} (hf:recs[i]? =some f) (hi:¬S i)
 (hlate:∀v,f.bx=some v→∀(q':Nat) f' v',recs[q']? =some f'→S q'→i<q'→f'.bx=some v'→v'.1≠v.1):RepB b0 recs (fun q=>S q∨q=i) (σ.addR f).b:=by
 cases hb:f.bx with
 |none=>
  have e:(σ.addR f).b=σ.b:=by simp [St.addR,hb]
  rw [e];refine ⟨fun t ht=>h.get t fun q g v hq hS hv=>ht q g v hq (.inl hS) hv,fun q g v hq hS hv hl=> ?_,fun p hp=> ?_⟩
  ·rcases hS with hS|rfl
   ·exact h.got q g v hq hS hv fun q' f' v' h1 h2 h3 h4=>hl q' f' v' h1 (.inl h2) h3 h4
   ·rw [hf] at hq;cases hq;rw [hb] at hv;cases hv
  ·rcases h.ent p hp with h1|⟨q,g,h1,h2,h3⟩
   ·exact .inl h1
   ·exact .inr ⟨q,g,h1,.inl h2,h3⟩
 |some v0=>
  have e:(σ.addR f).b=v0::σ.b:=by simp [St.addR,hb]
  obtain ⟨k0,c0⟩:=v0;rw [e];refine ⟨fun t ht=> ?_,fun q g v hq hS hv hl=> ?_,fun p hp=> ?_⟩
  ·rw [zqk,if_neg (fun e=>ht i f _ hf (.inr rfl) hb e.symm)];exact h.get t fun q g v hq hS hv=>ht q g v hq (.inl hS) hv
  ·rw [zqk];rcases hS with hS|rfl
   ·by_cases hk:v.1=k0
    ·exfalso;rcases Nat.lt_trichotomy i q with hlt|rfl|hlt
     ·exact hlate _ hb q g v hq hS hlt hv hk
     ·exact hi hS
     ·exact hl i f _ hf (.inr rfl) hlt hb hk.symm
    ·rw [if_neg hk];exact h.got q g v hq hS hv fun q' f' v' h1 h2 h3 h4=>hl q' f' v' h1 (.inl h2) h3 h4
   ·rw [hf] at hq;cases hq;rw [hb] at hv;cases hv;simp
  ·rcases List.mem_cons.1 hp with rfl|hp
   ·exact .inr ⟨i,f,hf,.inr rfl,hb⟩
   ·rcases h.ent p hp with h1|⟨q,g,h1,h2,h3⟩
    ·exact .inl h1
    ·exact .inr ⟨q,g,h1,.inl h2,h3⟩
def Closed (ops:Array Oper) (L:Nat→Prop):Prop:=∀k o,ops[k]? =some o→L k→∀e∈o.after,Region.binds .any e=true→L e.on
theorem qdc:∀(l:List Oper) (acc:List Nat),(znc l acc).length=acc.length+l.length∧(∀i,i<acc.length→(znc l acc).getD i 0=acc.getD i 0)∧
 ∀i o,l[i]? =some o→(znc l acc).getD (acc.length+i) 0=o.after.toList.foldl (fun s e=>bif Region.binds .any e then s ||| 2 ^ e.on ||| ((znc l acc).take (acc.length+i)).getD e.on 0 else s) 0
 |[],acc=>⟨by simp [znc],fun i _=>rfl,fun i o h=>by simp at h⟩
 |o::r,acc=>by
  have ih:=qdc r (acc++[o.after.toList.foldl (fun s e=>bif Region.binds .any e then s ||| 2 ^ e.on ||| acc.getD e.on 0 else s) 0]);simp only [znc];generalize hm:o.after.toList.foldl (fun s e=>bif Region.binds .any e then s ||| 2 ^ e.on ||| acc.getD e.on 0 else s) 0=m at ih ⊢;obtain ⟨h1,h2,h3⟩:=ih;refine ⟨by rw [h1];simp;omega,fun i hi=> ?_,fun i o' ho'=> ?_⟩
  ·rw [h2 i (by simp;omega)];simp only [List.getD_eq_getElem?_getD];rw [List.getElem?_append_left hi]
  ·cases i with
   |zero=>
    simp only [List.getElem?_cons_zero,Option.some.injEq] at ho';subst ho';rw [Nat.add_zero,h2 acc.length (by simp)];have e1:(acc++[m]).getD acc.length 0=m:=by simp [List.getD_eq_getElem?_getD]
    rw [e1];refine hm.symm.trans ?_
    congr 1
    funext s e
    congr 2
    simp only [List.getD_eq_getElem?_getD,List.getElem?_take];by_cases he:e.on<acc.length
    ·rw [if_pos he];have:=h2 e.on (by simp;omega);simp only [List.getD_eq_getElem?_getD] at this;rw [this,List.getElem?_append_left he]
    ·rw [if_neg he,List.getElem?_eq_none (by omega)]
   |succ i=>have:=h3 i o' (by simpa using ho');rw [show acc.length+(i+1)=(acc++[m]).length+i by simp;omega];exact this
theorem yoc (g:Nat→Nat) (j:Nat):∀(l:List Edge) (s:Nat),Nat.testBit (l.foldl (fun s e=>bif Region.binds .any e then s ||| 2 ^ e.on ||| g e.on else s) s) j=true→
 Nat.testBit s j=true∨∃e∈l,Region.binds .any e=true∧(e.on=j∨Nat.testBit (g e.on) j=true)
 |[],s,h=>.inl h
 |e::l,s,h=>by
  rcases yoc g j l _ h with h1|⟨e',h1,h2⟩
  ·cases hb:Region.binds .any e with
   |false=>simp only [hb,cond_false] at h1;exact .inl h1
   |true=>
    simp only [hb,cond_true,Nat.testBit_or,Bool.or_eq_true,Nat.testBit_two_pow,decide_eq_true_eq] at h1;rcases h1 with (h1|h1)|h1
    ·exact .inl h1
    ·exact .inr ⟨e,List.mem_cons_self ..,hb,.inl h1⟩
    ·exact .inr ⟨e,List.mem_cons_self ..,hb,.inr h1⟩
  ·exact .inr ⟨e',List.mem_cons_of_mem _ h1,h2⟩
theorem qyi (l:List Oper):∀(n:Nat),qhc n l=true→∀(i:Nat) (o:Oper),l[i]? =some o→∀e∈o.after,Region.binds .any e=true→e.on<n+i:=by
 induction l with
 |nil=>intro n h i o hi;simp at hi
 |cons o r ih=>
  intro n h i o' hi e he hb;rw [qhc,Bool.and_eq_true] at h;cases i with
  |zero=>rw [List.getElem?_cons_zero,Option.some.injEq] at hi;subst hi;have:=List.all_eq_true.1 h.1 e (Array.mem_toList_iff.2 he);rw [hb,Bool.not_true,Bool.false_or] at this;exact of_decide_eq_true this
  |succ i=>rw [List.getElem?_cons_succ] at hi;have:=ih (n+1) h.2 i o' hi e he hb;omega
theorem qyn {ops:Array Oper} (hE:qhc 0 ops.toList=true):∀(i:Nat) (o:Oper) (j:Nat),ops[i]? =some o→Nat.testBit ((znc ops.toList []).getD i 0) j=true→
 j<i∧∀(L:Nat→Prop),Closed ops L→(∀e∈o.after,Region.binds .any e=true→L e.on)→L j:=by
 intro i
 induction i using Nat.strongRecOn with
 |_ i ih=>
  intro o j ho hbit;have ho':ops.toList[i]? =some o:=by rw [Array.getElem?_toList];exact ho
  have hspec:=(qdc ops.toList []).2.2 i o ho';simp only [List.length_nil,Nat.zero_add] at hspec;rw [hspec] at hbit;rcases yoc (fun k=>((znc ops.toList []).take i).getD k 0) j _ 0 hbit with h1|⟨e,he,hb,h1⟩
  ·simp at h1
  ·have he':e∈o.after:=by simpa using he
   have hlt:=qyi ops.toList 0 hE i o ho' e he' hb;rw [Nat.zero_add] at hlt;rcases h1 with rfl|h1
   ·exact ⟨hlt,fun L _ hL=>hL e he' hb⟩
   ·have hlen:i<ops.size:=(Array.getElem?_eq_some_iff.1 ho).1;have h2:Nat.testBit ((znc ops.toList []).getD e.on 0) j=true:=by simp only [List.getD_eq_getElem?_getD,List.getElem?_take,if_pos hlt] at h1 ⊢;exact h1
    have hoe:ops[e.on]? =some ops[e.on]:=Array.getElem?_eq_getElem (by omega);obtain ⟨h3,h4⟩:=ih e.on hlt _ j hoe h2;exact ⟨by omega,fun L hC hL=>h4 L hC (hC e.on _ hoe (hL e he' hb))⟩
theorem qcr:∀(l:List Nat) (k acc:Nat),acc≤k→acc≤zvx l k acc∧zvx l k acc≤k+l.length∧∀q,zvx l k acc≤k+q→∀b,l[q]? =some b→b=2 ^ (k+q)-1
 |[],k,acc,h=>⟨Nat.le_refl _,by simp [zvx];omega,fun q _ b hb=>by simp at hb⟩
 |b0::r,k,acc,h=>by
  simp only [zvx];cases hb:Nat.beq b0 (2 ^ k-1) with
  |true=>
   simp only [cond_true];obtain ⟨h1,h2,h3⟩:=qcr r (k+1) acc (by omega);refine ⟨h1,by simp;omega,fun q hq b hbq=> ?_⟩;cases q with
   |zero=>simp at hbq;subst hbq;exact Nat.eq_of_beq_eq_true hb
   |succ q=>rw [show k+(q+1)=k+1+q by omega];exact h3 q (by omega) b (by simpa using hbq)
  |false=>
   simp only [cond_false];obtain ⟨h1,h2,h3⟩:=qcr r (k+1) (k+1) (by omega);refine ⟨by omega,by simp;omega,fun q hq b hbq=> ?_⟩;cases q with
   |zero=>omega
   |succ q=>rw [show k+(q+1)=k+1+q by omega];exact h3 q (by omega) b (by simpa using hbq)
theorem qjn {s:Nat}:∀{l:List Nat} {k i:Nat},idxN s l k=some i→k≤i∧l[i-k]? =some s
 |x::r,k,i,h=>by
  simp only [idxN] at h;cases hb:Nat.beq x s with
  |true=>simp only [hb,cond_true,Option.some.injEq] at h;subst h;simp [Nat.eq_of_beq_eq_true hb]
  |false=>simp only [hb,cond_false] at h;obtain ⟨h1,h2⟩:=qjn h;refine ⟨by omega,?_⟩;rw [show i-k=(i-(k+1))+1 by omega];simpa using h2
theorem qtj {s:Nat}:∀{l:List Nat} {k:Nat},idxN s l k=none→s∉l
 |[],k,h=>by simp
 |x::r,k,h=>by
  simp only [idxN] at h;cases hb:Nat.beq x s with
  |true=>simp [hb] at h
  |false=>
   simp only [hb,cond_false] at h;have:=qtj h;intro hm;rcases List.mem_cons.1 hm with rfl|hm
   ·rw [Nat.beq_refl] at hb;cases hb
   ·exact this hm
theorem zqh:∀{l:List Nat} {i j x:Nat},nodup l=true→l[i]? =some x→l[j]? =some x→i=j
 |y::r,i,j,x,hn,hi,hj=>by
  obtain ⟨h1,h2⟩:=nodup_cons hn;cases i with
  |zero=>
   cases j with
   |zero=>rfl
   |succ j=>simp at hi hj;subst hi;exact absurd (List.mem_of_getElem? hj) h1
  |succ i=>
   cases j with
   |zero=>simp at hi hj;subst hj;exact absurd (List.mem_of_getElem? hi) h1
   |succ j=>exact congrArg (· +1) (zqh (x:=x) h2 (by simpa using hi) (by simpa using hj))
theorem yhz {p q:Nat→Bool}:∀{l:List Nat},(∀x∈l,p x=true→q x=true)→∀{i:Nat},i∈l→q i=true→p i=false→l.countP p<l.countP q
 |x::r,h,i,hi,hq,hp=>by
  have hle:r.countP p≤r.countP q:=List.countP_mono_left fun y hy hpy=>h y (List.mem_cons_of_mem _ hy) hpy
  rw [List.countP_cons,List.countP_cons];rcases List.mem_cons.1 hi with rfl|hi
  ·simp [hq,hp];omega
  ·have:=yhz (l:=r) (fun y hy=>h y (List.mem_cons_of_mem _ hy)) hi hq hp;have hx:=h x (List.mem_cons_self ..);by_cases h1:p x=true
   ·simp [h1,hx h1];omega
   ·simp [h1];split<;>omega
section
variable {X:Ctx} {run:Runs X.E} {ops:Array Oper}
structure Fact (X:Ctx) (ops:Array Oper) (bs ds nn:List Nat) (σ0:St) (recs:List Rec) (q:Nat):Prop where
 ex:∃(o:Oper) (f:Rec) (σq:St) (bq:List (Nat×(TypeId×List PC))),ops[q]? =some o∧recs[q]? =some f∧ds[q]? =some f.d∧Rep σ0 recs (· <q) σq∧
  (∀t∈zjb ops.toList o,qwt bs ds q t=true)∧(∀s∈f.pv.refs,qeh bs ds q s=true)∧
  (∀v,f.bx=some v→v.1∈nn∧(∃z,ds[z]? =some v.1∧(z=q∨Nat.testBit (bs.getD q 0) z=true))∧(∀c∈v.2.2,∀s∈c.refs,qeh bs ds q s=true)∧(v.1=f.d∨f.d=1000000+v.1))∧
  RepB σ0.b recs (· <q) bq∧
  ∀τ:St,(∀t∈zjb ops.toList o,τ.get t=σq.get t)→(∀d',d'∉nn→getB τ.b d'=getB σ0.b d')→(∀v,f.bx=some v→v.1≠f.d→getB τ.b v.1=getB bq v.1)→Free f.d τ→zle X ops q τ (τ.addR f)
theorem yvz {p:Nat→Prop}:∀(n:Nat),(∀q,p q→q<n)→(∃q,p q)→∃q,p q∧∀q',q<q'→¬p q'
 |0,hb,⟨q,hq⟩=>absurd (hb q hq) (by omega)
 |n+1,hb,h=>by
  by_cases hn:p n
  ·exact ⟨n,hn,fun q' hq hp=>by have:=hb q' hp;omega⟩
  ·exact yvz n (fun q hq=>by
    have h1:=hb q hq;have h2:q≠n:=fun e=>hn (e▸hq)
    omega) h
theorem RepB.same {b0 b b':List (Nat×(TypeId×List PC))} {recs:List Rec} {S S':Nat→Prop} (h:RepB b0 recs S b) (h':RepB b0 recs S' b') (t:Nat)
 (he:∀(q:Nat) f v,recs[q]? =some f→f.bx=some v→v.1=t→(S q↔S' q)):getB b t=getB b' t:=by
 by_cases hex:∃q,S q∧∃f v,recs[q]? =some f∧f.bx=some v∧v.1=t
 ·obtain ⟨q,⟨hS,f,v,h1,h2,rfl⟩,hl⟩:=yvz recs.length (fun q ⟨_,f,_,h1,_⟩=>(List.getElem?_eq_some_iff.1 h1).1) hex;rw [h.got q f v h1 hS h2 fun q' f' v' k1 k2 k3 k4 k5=>hl q' k3 ⟨k2,f',v',k1,k4,k5⟩,
   h'.got q f v h1 ((he q f v h1 h2 rfl).1 hS) h2 fun q' f' v' k1 k2 k3 k4 k5=>hl q' k3 ⟨(he q' f' v' k1 k4 k5).2 k2,f',v',k1,k4,k5⟩]
 ·rw [h.get t fun q f v k1 k2 k3 k4=>hex ⟨q,k2,f,v,k1,k3,k4⟩,h'.get t fun q f v k1 k2 k3 k4=>hex ⟨q,(he q f v k1 k3 k4).2 k2,f,v,k1,k3,k4⟩]
theorem ywd {A:Fr} {tm:Array Value} {w:World} {τ:St} {d:Nat} (h:Inv X A τ tm w):Inv X A {τ with s:=(d,.undef)::τ.s} tm w:=
 ⟨h.sz,h.kept,h.glob,fun i=>by
  show RP _ A w (getS ((d,.undef)::τ.s) i) _;rw [qtm];split
  ·trivial
  ·exact h.slot i,h.box,h.good,fun p hp=>by
  rcases List.mem_cons.1 hp with rfl|hp
  ·exact ⟨undef,trivial⟩
  ·exact h.ent p hp⟩
theorem qaj:∀{a b:List (Nat×(TypeId×List PC))} {k:Nat} {v:TypeId×List PC},getB a k=some v→getB (a++b) k=some v
 |(j,x)::a,b,k,v,h=>by
  rw [List.cons_append,zqk];rw [zqk] at h;split
  ·rename_i e;rw [if_pos e] at h;exact h
  ·rename_i e;rw [if_neg e] at h;exact qaj h
theorem ywe {A:Fr} {tm:Array Value} {w:World} {s:List (Nat×PV)} {b:List (Nat×(TypeId×List PC))} {k:Nat} {v:TypeId×List PC} (h:Inv X A {s:=s,b:=(k,v)::delB b k} tm w):Inv X A {s:=s,b:=(k,v)::b} tm w:=
 h.eqv ⟨fun _=>rfl,fun t=>by
  show getB ((k,v)::delB b k) t=getB ((k,v)::b) t;rw [zqk,zqk];split
  ·rfl
  ·rename_i hne;rw [zqj,if_neg hne],fun _ h=>h⟩
theorem zxw:∀(u:Ty),∀c∈ztz u,c.refs=[]
 | .bool,c,hc=>by rw [List.mem_singleton.1 hc];rfl
 | .int _,c,hc=>by rw [List.mem_singleton.1 hc];rfl
 | .str,c,hc=>by rw [List.mem_singleton.1 hc];rfl
 | .fn,c,hc=>by rw [List.mem_singleton.1 hc];rfl
 | .slice _ _,c,hc=>by rw [List.mem_singleton.1 hc];rfl
 | .pair a b,c,hc=>by
   rcases List.mem_append.1 hc with hc|hc
   ·exact zxw a c hc
   ·exact zxw b c hc
theorem Free.put {d:Nat} {τ:St} (h:Free d τ) {slot:Nat} {p:PV} (hp:d∉p.refs):Free d (τ.put (some slot) p):=
 ⟨fun q hq=>by
  rcases List.mem_cons.1 hq with rfl|hq
  ·exact hp
  ·exact h.ent q hq,h.box⟩
theorem yhp {τ:St} {slot d:Nat} {p pv:PV} (h:τ.get slot=p) (hp:p≠.undef) (bx:Option (Nat×(TypeId×List PC))):Eqv ((τ.put (some slot) p).addR ⟨d,pv,bx⟩) (τ.addR ⟨d,pv,bx⟩):=by
 refine ⟨fun t=> ?_,fun t=>by cases bx<;>rfl,fun q hq=> ?_⟩
 ·show getS _ t=getS _ t;simp only [St.addR,St.put,qtm];by_cases h1:t=d
  ·simp [h1]
  ·simp only [h1,if_false];by_cases h2:t=slot
   ·subst h2;simp only [if_true];exact h.symm
   ·simp [h2]
 ·rcases List.mem_cons.1 hq with rfl|hq
  ·exact List.mem_cons_self ..
  ·exact List.mem_cons_of_mem _ (List.mem_cons_of_mem _ hq)
theorem yoh {σ τ:St} {o:Oper} {all:List Oper} (h:∀t∈zjb all o,τ.get t=σ.get t):∀x∈o.op.operands.toList,τ.ev x=σ.ev x:=fun x hx=>by
 cases x with
 |tmp t=>exact h t (List.mem_append_left _ (List.mem_filterMap.2 ⟨.tmp t,hx,rfl⟩))
 |const v=>unfold St.ev;split<;>first|rfl|(rename_i e;cases e;done)|(rename_i e;cases e;rfl)
 |_=>rfl
theorem xcj {A:Fr} {tm:Array Value} {w:World} {τ:St} {d:Nat} {pv:PV} (hf:Free d τ) (all:List Oper) (op:Op) (h:Inv X A (τ.addR ⟨d,pv,none⟩) tm w):∃A',Inv X A' (τ.addR ⟨d,pv.anon all op d,none⟩) tm w:=by
 unfold PV.anon;cases (isLit op&&qpf all d)||(xff op&&(xki all d||qpf all d)) with
 |false=>exact ⟨A,h⟩
 |true=>
  obtain ⟨A',h',_⟩:=h.release [zcc d 0 0];rw [St.qxn] at h';have e:=hf.map (f:=PC.zcs fun n=>bif mem [zcc d 0 0] n then some true else none) fun c hc=>qta (l:=[zcc d 0 0]) (fun n hn=>by rw [List.mem_singleton.1 hn];unfold zcc;omega) hc fun n hn=>by rw [zmi hn];rfl
  obtain ⟨s,b⟩:=τ;simp only [St.map,St.mk.injEq] at e;refine ⟨A',?_⟩;simp only [St.addR,St.map,List.map_cons,e.1,e.2] at h';exact h'
theorem qtp (hT:qel X.P X.E) (hR:qaq X.P X.E run) (hd:∀o∈ops.toList,∀d,o.dst=some d→d<X.n) {bs ds nn:List Nat} {σ0:St} (hds:nodup ds=true) {R:Type} {K:St→List (Nat×(TypeId×List PC))→Option R} {r:R}:
 ∀(l:List Oper) (i:Nat) (σ:St) (nb:List (Nat×(TypeId×List PC))) (pre:List Rec),(∀q o,l[q]? =some o→ops[i+q]? =some o∧ds[i+q]? =some (dOf o))→pre.length=i→(∀(q:Nat) (f:Rec),pre[q]? =some f→ds[q]? =some f.d)→
  Rep σ0 pre (fun _=>True) σ→σ.b=σ0.b→RepB σ0.b pre (fun _=>True) (nb++σ0.b)→qek X.E run ops.toList bs ds nn i l σ nb K=some r→
  ∃(recs:List Rec) (σ':St) (nb':List (Nat×(TypeId×List PC))),recs.length=i+l.length∧(∀(q:Nat) (f:Rec),pre[q]? =some f→recs[q]? =some f)∧(∀(q:Nat) (f:Rec),recs[q]? =some f→ds[q]? =some f.d)∧K σ' nb'=some r∧Rep σ0 recs (fun _=>True) σ'∧σ'.b=σ0.b∧RepB σ0.b recs (fun _=>True) (nb'++σ0.b)∧
   ∀q,i≤q→q<i+l.length→Fact X ops bs ds nn σ0 recs q
 |[],i,σ,nb,pre,hl,hpl,hpd,hrep,hb,hrb,h=>⟨pre,σ,nb,by simp [hpl],fun _ _ h=>h,hpd,h,hrep,hb,hrb,fun q h1 h2=>by simp at h2;omega⟩
 |o::l,i,σ,nb,pre,hl,hpl,hpd,hrep,hb,hrb,h=>by
  obtain ⟨hoi,hdi⟩:=hl 0 o rfl;rw [Nat.add_zero] at hoi hdi;have next0:∀(d:Nat),dOf o=d→(∀t∈zjb ops.toList o,qwt bs ds i t=true)→∀(σ1:St) (pv:PV) (bx:Option (Nat×(TypeId×List PC))) (nb1:List (Nat×(TypeId×List PC))),Eqv σ1 σ→(∀p∈σ1.s,p∈σ.s)→σ1.b=σ.b→
   (∀v,bx=some v→v.1∈nn∧(∃z,ds[z]? =some v.1∧(z=i∨Nat.testBit (bs.getD i 0) z=true))∧(∀c∈v.2.2,∀s∈c.refs,qeh bs ds i s=true)∧(v.1=d∨d=1000000+v.1))→
   nb1=(match bx with|some v=>v::nb|none=>nb)→
   (∀τ:St,(∀t∈zjb ops.toList o,τ.get t=σ.get t)→(∀d',d'∉nn→getB τ.b d'=getB σ0.b d')→(∀v,bx=some v→v.1≠d→getB τ.b v.1=getB (nb++σ0.b) v.1)→Free d τ→zle X ops i τ (τ.addR ⟨d,pv,bx⟩))→
   (bif pv.refs.all (qeh bs ds i) then qek X.E run ops.toList bs ds nn (i+1) l (σ1.put (some d) pv) nb1 K else none)=some r→
   ∃(recs:List Rec) (σ':St) (nb':List (Nat×(TypeId×List PC))),recs.length=i+(l.length+1)∧(∀(q:Nat) (f:Rec),pre[q]? =some f→recs[q]? =some f)∧(∀(q:Nat) (f:Rec),recs[q]? =some f→ds[q]? =some f.d)∧K σ' nb'=some r∧Rep σ0 recs (fun _=>True) σ'∧σ'.b=σ0.b∧RepB σ0.b recs (fun _=>True) (nb'++σ0.b)∧
    ∀q,i≤q→q<i+(l.length+1)→Fact X ops bs ds nn σ0 recs q:=by
   intro d hdd hlk σ1 pv bx nb1 heq hent hb1 hbx hnb hstep h;rw [hdd] at hdi;cases hrefs:pv.refs.all (qeh bs ds i) with
   |false=>simp [hrefs] at h
   |true=>
    simp only [hrefs,cond_true] at h;have hget:∀(q:Nat) (f:Rec),(pre++[⟨d,pv,bx⟩])[q]? =some f→(q<i∧pre[q]? =some f)∨(q=i∧f=⟨d,pv,bx⟩):=fun q f hq=>by
     by_cases h1:q<i
     ·rw [List.getElem?_append_left (by omega)] at hq;exact .inl ⟨h1,hq⟩
     ·rw [List.getElem?_append_right (by omega),hpl] at hq;have hlt:=(List.getElem?_eq_some_iff.1 hq).1;simp only [List.length_singleton] at hlt;have:q=i:=by omega
      subst this;simp at hq;exact .inr ⟨rfl,hq.symm⟩
    have hnew:(pre++[(⟨d,pv,bx⟩:Rec)])[i]? =some ⟨d,pv,bx⟩:=by rw [List.getElem?_append_right (by omega),hpl];simp
    have hold:∀(q:Nat) (f:Rec),pre[q]? =some f→(pre++[(⟨d,pv,bx⟩:Rec)])[q]? =some f:=fun q f hq=>by rw [List.getElem?_append_left (List.getElem?_eq_some_iff.1 hq).1];exact hq
    have hpd':∀(q:Nat) (f:Rec),(pre++[(⟨d,pv,bx⟩:Rec)])[q]? =some f→ds[q]? =some f.d:=fun q f hq=>by
     rcases hget q f hq with ⟨_,h1⟩|⟨rfl,rfl⟩
     ·exact hpd q f h1
     ·exact hdi
    have hne:∀(q:Nat) (f:Rec),pre[q]? =some f→f.d≠d:=fun q f hq e=>by have h1:=hpd q f hq;rw [e] at h1;have:=zqh hds h1 hdi;have h2:=(List.getElem?_eq_some_iff.1 hq).1;omega
    have hrep':Rep σ0 (pre++[⟨d,pv,bx⟩]) (fun _=>True) (σ1.put (some d) pv):=by
     refine ⟨fun t ht=> ?_,fun q f hq _=> ?_,fun p hp=> ?_,fun p hp=> ?_,fun q f hq _=> ?_⟩
     ·rw [St.get_put,if_neg (fun e=>ht i _ hnew trivial e.symm),heq.get];exact hrep.get t fun q f hq _=>ht q f (hold q f hq) trivial
     ·rw [St.get_put];rcases hget q f hq with ⟨_,h1⟩|⟨rfl,rfl⟩
      ·rw [if_neg (hne q f h1),heq.get];exact hrep.got q f h1 trivial
      ·simp
     ·rcases List.mem_cons.1 hp with rfl|hp
      ·exact .inr ⟨i,_,hnew,trivial,rfl⟩
      ·rcases hrep.ent p (hent p hp) with h1|⟨q,f,h1,_,h2⟩
       ·exact .inl h1
       ·exact .inr ⟨q,f,hold q f h1,trivial,h2⟩
     ·exact List.mem_cons_of_mem _ (heq.ent p (hrep.ent0 p hp))
     ·rcases hget q f hq with ⟨_,h1⟩|⟨rfl,rfl⟩
      ·exact List.mem_cons_of_mem _ (heq.ent _ (hrep.ent1 q f h1 trivial))
      ·exact List.mem_cons_self ..
    have hrb':RepB σ0.b (pre++[⟨d,pv,bx⟩]) (fun _=>True) (nb1++σ0.b):=by
     subst hnb;cases bx with
     |none=>
      refine ⟨fun t ht=>hrb.get t fun q f v hq _ hf=>ht q f v (hold q f hq) trivial hf,fun q f v hq _ hv hlate=> ?_,fun p hp=> ?_⟩
      ·rcases hget q f hq with ⟨_,h1⟩|⟨rfl,rfl⟩
       ·exact hrb.got q f v h1 trivial hv fun q' f' v' k1 k2 k3 k4=>hlate q' f' v' (hold q' f' k1) trivial k3 k4
       ·cases hv
      ·rcases hrb.ent p hp with h1|⟨q,f,h1,_,h2⟩
       ·exact .inl h1
       ·exact .inr ⟨q,f,hold q f h1,trivial,h2⟩
     |some v0=>
      obtain ⟨k0,c0⟩:=v0;refine ⟨fun t ht=> ?_,fun q f v hq _ hv hlate=> ?_,fun p hp=> ?_⟩
      ·rw [List.cons_append,zqk,if_neg (fun e=>ht i _ _ hnew trivial rfl e.symm)];exact hrb.get t fun q f v hq _ hf=>ht q f v (hold q f hq) trivial hf
      ·rw [List.cons_append,zqk];rcases hget q f hq with ⟨h0,h1⟩|⟨rfl,rfl⟩
       ·rw [if_neg (fun e=>hlate i _ _ hnew trivial h0 rfl e.symm)];exact hrb.got q f v h1 trivial hv fun q' f' v' k1 k2 k3 k4=>hlate q' f' v' (hold q' f' k1) trivial k3 k4
       ·cases hv;simp
      ·rw [List.cons_append] at hp;rcases List.mem_cons.1 hp with rfl|hp
       ·exact .inr ⟨i,_,hnew,trivial,rfl⟩
       ·rcases hrb.ent p hp with h1|⟨q,f,h1,_,h2⟩
        ·exact .inl h1
        ·exact .inr ⟨q,f,hold q f h1,trivial,h2⟩
    obtain ⟨recs,σ',nb',h1,h2,h3,h4,h5,h6,h7,h8⟩:=qtp hT hR hd hds l (i+1) (σ1.put (some d) pv) nb1 (pre++[⟨d,pv,bx⟩]) (fun q o' ho'=>by have:=hl (q+1) o' (by simpa using ho');rw [show i+1+q=i+(q+1) by omega];exact this) (by simp [hpl]) hpd' hrep' (by show σ1.b=_;rw [hb1,hb]) hrb' h;refine ⟨recs,σ',nb',by omega,fun q f hq=>h2 q f (hold q f hq),h3,h4,h5,h6,h7,fun q hq1 hq2=> ?_⟩;by_cases hqi:q=i
    ·subst hqi;have hpre:∀(q':Nat) (f:Rec),q'<q→recs[q']? =some f→pre[q']? =some f:=fun q' f hq' hf=>by
      have hlt:q'<pre.length:=by omega
      have:=h2 q' _ (hold q' _ (List.getElem?_eq_getElem hlt));rw [this] at hf;cases hf;exact List.getElem?_eq_getElem hlt
     have hlt':∀(q':Nat) (f:Rec),pre[q']? =some f→q'<q∧recs[q']? =some f:=fun q' f hq'=>⟨by have:=(List.getElem?_eq_some_iff.1 hq').1;omega,h2 q' f (hold q' f hq')⟩
     refine ⟨o,⟨d,pv,bx⟩,σ,nb++σ0.b,hoi,h2 _ _ hnew,hdi,?_,hlk,fun s hs=>List.all_eq_true.1 hrefs s hs,hbx,?_,hstep⟩
     ·refine ⟨fun t ht=>hrep.get t fun q' f hq' _=>ht q' f (hlt' q' f hq').2 (hlt' q' f hq').1,fun q' f hq' hlt=>hrep.got q' f (hpre q' f hlt hq') trivial,fun p hp=> ?_,hrep.ent0,fun q' f hq' hlt=>hrep.ent1 q' f (hpre q' f hlt hq') trivial⟩;rcases hrep.ent p hp with k1|⟨q',f,k1,_,k2⟩
      ·exact .inl k1
      ·exact .inr ⟨q',f,(hlt' q' f k1).2,(hlt' q' f k1).1,k2⟩
     ·refine ⟨fun t ht=>hrb.get t fun q' f v hq' _ hv=>ht q' f v (hlt' q' f hq').2 (hlt' q' f hq').1 hv,fun q' f v hq' hlt hv hlate=>hrb.got q' f v (hpre q' f hlt hq') trivial hv fun q2 f2 v2 k1 _ k3 k4=>hlate q2 f2 v2 (hlt' q2 f2 k1).2 (hlt' q2 f2 k1).1 k3 k4,fun p hp=> ?_⟩;rcases hrb.ent p hp with k1|⟨q',f,k1,_,k2⟩
      ·exact .inl k1
      ·exact .inr ⟨q',f,(hlt' q' f k1).2,(hlt' q' f k1).1,k2⟩
    ·exact h8 q (by omega) (by omega)
  unfold qek at h;split at h
  ·
   rename_i hdst;split at h
   ·cases h
   rename_i hgd;split at h
   ·cases h
   rename_i k v hsb;cases hcond:((zjb ops.toList o).all (qwt bs ds i)&&((idxN k ds 0).isSome&&(mem nn k&&v.2.all fun c=>c.refs.all (qeh bs ds i)))) with
   |false=>rw [hcond] at h;cases h
   |true=>
    rw [hcond] at h;simp only [cond_true] at h;simp only [Bool.and_eq_true] at hcond;obtain ⟨hlooks,hidx,hnn,hcells⟩:=hcond;unfold xdk at hsb;split at hsb
    ·rename_i t kk x hop;split at hsb
     ·rename_i sv k' ti tid cs e1 e2 e3 e4;cases hc2:(Nat.beq k' kk&&(Nat.beq sv.cells.length ti.size&&decide (ti.size≤cs.length))) with
      |false=>rw [hc2] at hsb;cases hsb
      |true=>
       rw [hc2] at hsb;simp only [cond_true,Option.some.injEq,Prod.mk.injEq] at hsb;obtain ⟨rfl,rfl⟩:=hsb;simp only [Bool.and_eq_true,decide_eq_true_eq] at hc2;obtain ⟨c1,c2,c3⟩:=hc2;have c1:=Nat.eq_of_beq_eq_true c1;subst c1;have c2:=Nat.eq_of_beq_eq_true c2;have hdo:dOf o=1000000+k':=by unfold dOf ymv;rw [hdst,hop]
       rw [hdo] at h;have hlk:∀t∈zjb ops.toList o,qwt bs ds i t=true:=List.all_eq_true.1 hlooks;obtain ⟨z,hz⟩:=Option.isSome_iff_exists.1 hidx;have hkl:k'∈zjb ops.toList o:=List.mem_append_left _ (List.mem_filterMap.2 ⟨.tmp k',by simp [hop,Op.operands],rfl⟩);have hdep:=hlk k' hkl;unfold qwt at hdep;rw [hz] at hdep;have hdz:=(qjn hz).2;rw [Nat.sub_zero] at hdz;refine next0 (1000000+k') hdo hlk σ .undef (some (k',(tid,setCells cs sv.cells 0))) _ ⟨fun _=>rfl,fun _=>rfl,fun _ h=>h⟩ (fun _ h=>h) rfl (fun v hv=>by cases hv;exact ⟨mem_iff.1 hnn,⟨z,hdz,.inr hdep⟩,fun c hc s hs=>List.all_eq_true.1 (List.all_eq_true.1 hcells c hc) s hs,.inr rfl⟩) rfl (fun τ hτ _ hτk _=> ?_) h;have hgk:getB τ.b k'=some (tid,cs):=by rw [hτk _ rfl (by show k'≠1000000+k';omega)];exact qaj e4
       have hev:=yoh hτ;have hx:τ.ev x=σ.ev x:=hev x (by simp [hop,Op.operands]);have hk:τ.get k'=σ.get k':=hτ k' hkl;have hopK:opK X.E run τ o some=some {s:=τ.s,b:=(k',(tid,setCells cs sv.cells 0))::delB τ.b k'}:=by have hk2:τ.ev (.tmp k')= .sv (.one (.box k' 0)):=hk.trans e2;simp only [opK,hop,hx,e1,hk2,qmj,e3,hgk,c2,if_true,Nat.zero_add,if_pos c3,hdst,St.put]
       obtain ⟨σ',h1,h2⟩:=zos (K:=some) hT hR hoi (hd o (List.mem_of_getElem? (by rw [Array.getElem?_toList];exact hoi))) (r:={s:=τ.s,b:=(k',(tid,setCells cs sv.cells 0))::delB τ.b k'}) (σ:=τ) (by unfold opGK;rw [hgd];exact hopK);cases h1;intro A a w hi hdef nx Q hn;exact h2 A a w hi hdef nx Q fun A' a' w' hi' hd'=>hn A' a' w' (ywd (ywe hi')) hd'
     ·cases hsb
    ·cases hsb
  rename_i d hdst;have hdo':dOf o=d:=by unfold dOf;rw [hdst]
  cases hlooks:(zjb ops.toList o).all (qwt bs ds i) with
  |false=>simp [hlooks] at h
  |true=>
   simp only [hlooks,cond_true] at h;have hlk:∀t∈zjb ops.toList o,qwt bs ds i t=true:=List.all_eq_true.1 hlooks;have hdo:∀d,o.dst=some d→d<X.n:=hd o (List.mem_of_getElem? (by rw [Array.getElem?_toList];exact hoi));have next:=next0 d hdo' hlk
   have go:∀(σ1:St) (gd:St→St),Eqv σ1 σ→(∀p∈σ1.s,p∈σ.s)→σ1.b=σ.b→
    (∀τ:St,(∀t∈zjb ops.toList o,τ.get t=σ.get t)→(∀t∈zjb ops.toList o,(gd τ).get t=σ1.get t)∧(gd τ).b=τ.b∧(∀d,Free d τ→Free d (gd τ))∧(∀(d:Nat) pv bx,Eqv ((gd τ).addR ⟨d,pv,bx⟩) (τ.addR ⟨d,pv,bx⟩))∧
     ∀τ'',opK X.E run (gd τ) o some=some τ''→zle X ops i τ τ'')→
    (match o.op with
     | .alloc t=>(match X.E.ti t with
       |some ti=>(match ti.ty with
        |some u=>bif zrj u&&mem nn d then (bif (PV.sv (.one (.box d 0))).refs.all (qeh bs ds i) then qek X.E run ops.toList bs ds nn (i+1) l (σ1.put (some d) (.sv (.one (.box d 0)))) ((d,(t,ztz u))::nb) K else none) else none
        |none=>none)
       |none=>none)
     |_=>bif okV X.E σ1 o d&&(o.op.operands.toList.all fun x=>(σ1.ev x).refs.all fun s=> !mem nn s) then opK X.E run σ1 o fun σ'=>(bif ((σ'.get d).anon ops.toList o.op d).refs.all (qeh bs ds i) then qek X.E run ops.toList bs ds nn (i+1) l (σ1.put (some d) ((σ'.get d).anon ops.toList o.op d)) nb K else none) else none)=some r→
    ∃(recs:List Rec) (σ':St) (nb':List (Nat×(TypeId×List PC))),recs.length=i+(l.length+1)∧(∀(q:Nat) (f:Rec),pre[q]? =some f→recs[q]? =some f)∧(∀(q:Nat) (f:Rec),recs[q]? =some f→ds[q]? =some f.d)∧K σ' nb'=some r∧Rep σ0 recs (fun _=>True) σ'∧σ'.b=σ0.b∧RepB σ0.b recs (fun _=>True) (nb'++σ0.b)∧
     ∀q,i≤q→q<i+(l.length+1)→Fact X ops bs ds nn σ0 recs q:=by
    intro σ1 gd heq hent hb1 hgd h;have plain:(bif okV X.E σ1 o d&&(o.op.operands.toList.all fun x=>(σ1.ev x).refs.all fun s=> !mem nn s) then opK X.E run σ1 o fun σ'=>(bif ((σ'.get d).anon ops.toList o.op d).refs.all (qeh bs ds i) then qek X.E run ops.toList bs ds nn (i+1) l (σ1.put (some d) ((σ'.get d).anon ops.toList o.op d)) nb K else none) else none)=some r→
     ∃(recs:List Rec) (σ':St) (nb':List (Nat×(TypeId×List PC))),recs.length=i+(l.length+1)∧(∀(q:Nat) (f:Rec),pre[q]? =some f→recs[q]? =some f)∧(∀(q:Nat) (f:Rec),recs[q]? =some f→ds[q]? =some f.d)∧K σ' nb'=some r∧Rep σ0 recs (fun _=>True) σ'∧σ'.b=σ0.b∧RepB σ0.b recs (fun _=>True) (nb'++σ0.b)∧
      ∀q,i≤q→q<i+(l.length+1)→Fact X ops bs ds nn σ0 recs q:=fun h=>by
     cases hcond:(okV X.E σ1 o d&&(o.op.operands.toList.all fun x=>(σ1.ev x).refs.all fun s=> !mem nn s)) with
     |false=>rw [hcond] at h;cases h
     |true=>
      simp only [hcond,cond_true] at h;rw [qdt] at h;simp only [Option.bind_eq_some_iff] at h;obtain ⟨σ',hop,h⟩:=h;simp only [Bool.and_eq_true,List.all_eq_true,Bool.not_eq_true'] at hcond;obtain ⟨hok,hnn⟩:=hcond;refine next σ1 ((σ'.get d).anon ops.toList o.op d) none nb heq hent hb1 (fun v hv=>by cases hv) rfl (fun τ hτ hτb _ hfree=> ?_) h
      obtain ⟨hg1,hg2,hg3,hg4,hg5⟩:=hgd τ hτ;obtain ⟨lk,hlk2,hloc⟩:=yvc (E:=X.E) (run:=run) (σ:=σ1) (τ:=gd τ) hdst hok (yoh hg1) (fun x hx s hs=>by
       have hsn:s∉nn:=fun hm=>by have:=hnn x hx s hs;rw [mem_iff.2 hm] at this;cases this
       rw [hg2,hb1,hb];exact hτb s hsn)
      rw [qdt (K:=fun σ'=>some (σ'.get d)),hop] at hloc;simp only [Option.bind_some] at hloc;rw [(hg3 d hfree).kill hlk2] at hloc;have hs:=hg5 _ hloc;intro A a w hi hdef nx Q hn;exact hs A a w hi hdef nx Q fun A' a' w' hi' hd'=>let ⟨A2,h2⟩:=xcj hfree ops.toList (o.op) (hi'.eqv (hg4 d (σ'.get d) none));hn A2 a' w' h2 hd'
    split at h
    ·rename_i t ho;split at h
     ·rename_i ti hti;split at h
      ·rename_i u hu;cases hcond:(zrj u&&mem nn d) with
       |false=>simp [hcond] at h
       |true=>
        simp only [hcond,cond_true] at h;simp only [Bool.and_eq_true] at hcond;refine next σ1 _ (some (d,(t,ztz u))) _ heq hent hb1 (fun v hv=>by cases hv;exact ⟨mem_iff.1 hcond.2,⟨i,hdo'▸hdi,.inl rfl⟩,fun c hc s hs=>(by rw [zxw u c hc] at hs;cases hs),.inl rfl⟩) rfl (fun τ hτ hτb _ hfree=> ?_) h
        obtain ⟨hg1,hg2,hg3,hg4,hg5⟩:=hgd τ hτ;have hop:opK X.E run (gd τ) o some=some ((gd τ).addR ⟨d,.sv (.one (.box d 0)),some (d,(t,ztz u))⟩):=by simp only [opK,ho,hti,hdst,hu,hcond.1,cond_true];rw [(hg3 d hfree).qbz fun c hc=>by rw [zxw u c hc];simp];rfl
        have hs:=hg5 _ hop;intro A a w hi hdef nx Q hn;exact hs A a w hi hdef nx Q fun A' a' w' hi' hd'=>hn A' a' w' (hi'.eqv (hg4 d _ _)) hd'
      ·cases h
     ·cases h
    ·exact plain h
   split at h
   ·rename_i hg;refine go σ id ⟨fun _=>rfl,fun _=>rfl,fun _ h=>h⟩ (fun _ h=>h) rfl (fun τ hτ=>⟨hτ,rfl,fun _ h=>h,fun _ _ _=>⟨fun _=>rfl,fun _=>rfl,fun _ h=>h⟩,fun τ'' hop=> ?_⟩) h;obtain ⟨σ',h1,h2⟩:=zos (K:=some) hT hR hoi hdo (r:=τ'') (σ:=τ) (by unfold opGK;rw [hg];exact hop);cases h1;exact h2
   ·rename_i j want hg;split at h
    ·cases h
    ·rename_i slot hslot;have hsl:slot∈zjb ops.toList o:=List.mem_append_right _ (by rw [hg];simp only [hslot];simp);have goB:∀b:Bool,σ.get slot= .sv (.one (.bool b))→b=want→∀τ:St,(∀t∈zjb ops.toList o,τ.get t=σ.get t)→
      (∀t∈zjb ops.toList o,(τ.put (some slot) (.sv (.one (.bool b)))).get t=(σ.put (some slot) (.sv (.one (.bool b)))).get t)∧(τ.put (some slot) (.sv (.one (.bool b)))).b=τ.b∧(∀d,Free d τ→Free d (τ.put (some slot) (.sv (.one (.bool b)))))∧
      (∀(d:Nat) pv bx,Eqv ((τ.put (some slot) (.sv (.one (.bool b)))).addR ⟨d,pv,bx⟩) (τ.addR ⟨d,pv,bx⟩))∧∀τ'',opK X.E run (τ.put (some slot) (.sv (.one (.bool b)))) o some=some τ''→zle X ops i τ τ'':=fun b hσ hbw τ hτ=>by
      have hτs:τ.get slot= .sv (.one (.bool b)):=(hτ slot hsl).trans hσ;refine ⟨fun t ht=> ?_,rfl,fun d hf=>hf.put (by simp [PV.refs,SV.refs,SV.cells,PC.refs]),fun d pv bx=>yhp hτs (by simp) bx,fun τ'' hop=> ?_⟩
      ·rw [St.get_put,St.get_put];split
       ·rfl
       ·exact hτ t ht
      ·obtain ⟨σ',h1,h2⟩:=zos (K:=some) hT hR hoi hdo (r:=τ'') (σ:=τ) (by unfold opGK;rw [hg];simp only [hslot,qfh,hτs];subst hbw;cases b<;>exact hop);cases h1;exact h2
     have eqB:∀b:Bool,σ.get slot= .sv (.one (.bool b))→Eqv (σ.put (some slot) (.sv (.one (.bool b)))) σ∧∀p∈(σ.put (some slot) (.sv (.one (.bool b)))).s,p∈σ.s:=fun b hσ=>by
      refine ⟨⟨fun t=> ?_,fun _=>rfl,fun p hp=>List.mem_cons_of_mem _ hp⟩,fun p hp=> ?_⟩
      ·rw [St.get_put];split
       ·rename_i e;rw [e];exact hσ.symm
       ·rfl
      ·rcases List.mem_cons.1 hp with rfl|hp
       ·rcases qjs σ.s slot with h1|h1
        ·rw [show getS σ.s slot=σ.get slot from rfl,hσ] at h1;cases h1
        ·rw [show getS σ.s slot=σ.get slot from rfl,hσ] at h1;exact h1
       ·exact hp
     have skip:∀(σ1:St),Eqv σ1 σ→(∀p∈σ1.s,p∈σ.s)→σ1.b=σ.b→
      (∀τ:St,(∀t∈zjb ops.toList o,τ.get t=σ.get t)→zle X ops i τ (τ.addR ⟨d,.void,none⟩))→
      (bif PV.void.refs.all (qeh bs ds i) then qek X.E run ops.toList bs ds nn (i+1) l (σ1.put (some d) .void) nb K else none)=some r→_:=fun σ1 h1 h2 h3 h4 h5=>
      next σ1 .void none nb h1 h2 h3 (fun v hv=>by cases hv) rfl (fun τ hτ _ _ _=>h4 τ hτ) h5
     have skB:∀b:Bool,σ.get slot= .sv (.one (.bool b))→b≠want→∀τ:St,(∀t∈zjb ops.toList o,τ.get t=σ.get t)→zle X ops i τ (τ.addR ⟨d,.void,none⟩):=fun b hσ hbw τ hτ=>by have hτs:τ.get slot= .sv (.one (.bool b)):=(hτ slot hsl).trans hσ;obtain ⟨σ',h1,h2⟩:=zos (K:=some) (run:=run) hT hR hoi hdo (r:=(τ.put (some slot) (.sv (.one (.bool b)))).put (some d) .void) (σ:=τ) (by unfold opGK;rw [hg];simp only [hslot,qfh,hτs,hdst];cases b<;>cases want<;>first|rfl|exact absurd rfl hbw);cases h1;intro A a w hi hdef nx Q hn;exact h2 A a w hi hdef nx Q fun A' a' w' hi' hd'=>hn A' a' w' (hi'.eqv (yhp hτs (by simp) none)) hd'
     unfold qfh at h;split at h
     ·rename_i b hb2;cases b<;>cases want<;>simp only [cond_true,cond_false] at h
      ·exact go _ (fun τ=>τ.put (some slot) (.sv (.one (.bool false)))) (eqB false hb2).1 (eqB false hb2).2 rfl (goB false hb2 rfl) h
      ·exact skip _ (eqB false hb2).1 (eqB false hb2).2 rfl (skB false hb2 (by simp)) h
      ·exact skip _ (eqB true hb2).1 (eqB true hb2).2 rfl (skB true hb2 (by simp)) h
      ·exact go _ (fun τ=>τ.put (some slot) (.sv (.one (.bool true)))) (eqB true hb2).1 (eqB true hb2).2 rfl (goB true hb2 rfl) h
     ·rename_i hv;refine skip σ ⟨fun _=>rfl,fun _=>rfl,fun _ h=>h⟩ (fun _ h=>h) rfl (fun τ hτ=> ?_) h;have hτs:τ.get slot= .void:=(hτ slot hsl).trans hv;obtain ⟨σ',h1,h2⟩:=zos (K:=some) (run:=run) hT hR hoi hdo (r:=τ.put (some d) .void) (σ:=τ) (by unfold opGK;rw [hg];simp only [hslot,qfh,hτs,hdst]);cases h1;exact h2
     ·cases h
theorem ygq {R:Type} {K:St→Option R} {r:R} (hT:qel X.P X.E) (hR:qaq X.P X.E run) (hd:∀o∈ops.toList,∀d,o.dst=some d→d<X.n):
 ∀(l:List Oper) (i:Nat) (σ:St),ops.toList.drop i=l→opsK X.E run ops.toList l σ K=some r→
  ∃st:Nat→St,st i=σ∧K (st (i+l.length))=some r∧∀k,i≤k→k<i+l.length→zle X ops k (st k) (st (k+1))
 |[],i,σ,hl,h=>⟨fun _=>σ,rfl,h,fun k h1 h2=>by simp at h2;omega⟩
 |o::l,i,σ,hl,h=>by
  simp only [opsK] at h;have hio:ops[i]? =some o:=by
   have:=congrArg (·[0]?) hl
   simp only [List.getElem?_drop,List.getElem?_cons_zero,Nat.add_zero] at this;rw [←Array.getElem?_toList];exact this
  have hmem:o∈ops.toList:=List.mem_of_getElem? (by rw [←Array.getElem?_toList] at hio;exact hio);obtain ⟨σ1,h1,h2⟩:=zos hT hR hio (hd o hmem) h;have hl':ops.toList.drop (i+1)=l:=by rw [←List.drop_drop,hl];rfl
  obtain ⟨st,h3,h4,h5⟩:=ygq hT hR hd l (i+1) σ1 hl' h1;refine ⟨fun k=>if k≤i then σ else st k,by simp,?_,fun k hk1 hk2=> ?_⟩
  ·have:¬(i+(l.length+1)≤i):=by omega
   simp only [List.length_cons,this,if_false];rw [show i+(l.length+1)=i+1+l.length by omega];exact h4
  ·simp only [List.length_cons] at hk2;have hk3:¬(k+1≤i):=by omega
   simp only [hk3,if_false];by_cases hki:k=i
   ·subst hki;simp only [Nat.le_refl,if_true,h3];exact h2
   ·have:¬(k≤i):=by omega
    simp only [this,if_false];exact h5 k (by omega) (by omega)
theorem Rep.congr {σ0 τ:St} {recs:List Rec} {S S':Nat→Prop} (h:Rep σ0 recs S τ) (e:∀q,S q↔S' q):Rep σ0 recs S' τ:=by
 have:S=S':=funext fun q=>propext (e q)
 rw [←this];exact h
theorem RepB.congr {b0 b:List (Nat×(TypeId×List PC))} {recs:List Rec} {S S':Nat→Prop} (h:RepB b0 recs S b) (e:∀q,S q↔S' q):RepB b0 recs S' b:=by
 have:S=S':=funext fun q=>propext (e q)
 rw [←this];exact h
theorem yqm {listed:Array Bool} {i:Nat} (h:listed.getD i true=false) (j:Nat):(listed.setIfInBounds i true).getD j false=true↔listed.getD j false=true∨j=i:=by
 have hlt:i<listed.size:=by
  rcases Nat.lt_or_ge i listed.size with h'|h'
  ·exact h'
  ·simp [Array.getElem?_eq_none h'] at h
 by_cases hij:i=j
 ·subst hij;simp [hlt]
 ·rw [getD_set_ne false hij];constructor
  ·exact .inl
  ·rintro (h|rfl)
   ·exact h
   ·exact absurd rfl hij
theorem yzk {listed:Array Bool} {i:Nat} (h:listed.getD i true=false):¬listed.getD i false=true:=by
 intro h2;rw [Array.getD_eq_getD_getElem?] at h h2;cases hl:listed[i]? with
 |none=>rw [hl] at h;cases h
 |some b=>rw [hl] at h h2;simp only [Option.getD_some] at h h2;rw [h] at h2;cases h2
def xiq (X:Ctx) (σ0:St) (recs:List Rec) (m n:Nat) (st:Nat→St) (L:Nat→Prop) (A:Fr) (a:Act) (w:World):Prop:=
 (∃τ,(∀k,L k→k<m)∧Rep σ0 recs L τ∧RepB σ0.b recs L τ.b∧Inv X A τ a.tmps w)∨∃k,m≤k∧k≤n∧(∀j,L j↔j<k)∧Inv X A (st k) a.tmps w
theorem ykl {bs ds nn:List Nat} {σ0 σ1:St} {nb:List (Nat×(TypeId×List PC))} {recs:List Rec} {m:Nat} {st:Nat→St} {Q:Exit→Act→World→Prop} (hbs:bs=znc ops.toList []) (hE:qhc 0 ops.toList=true)
 (hds:nodup ds=true) (hlen:recs.length=m) (hmn:m≤ops.size) (hrd:∀(q:Nat) (f:Rec),recs[q]? =some f→ds[q]? =some f.d) (hdm:ds.length=m) (h0:∀s∈σ0.refs,s∉ds) (hrep:Rep σ0 recs (fun _=>True) σ1) (hb1:σ1.b=σ0.b)
 (hrb:RepB σ0.b recs (fun _=>True) (nb++σ0.b)) (hfacts:∀q,q<m→Fact X ops bs ds nn σ0 recs q) (hst:st m={s:=σ1.s,b:=nb++σ1.b}) (hsteps:∀k,m≤k→k<ops.size→zle X ops k (st k) (st (k+1)))
 (hfull:∀k,m≤k→k<ops.size→bs.getD k 0=2 ^ k-1) (hq:∀(A:Fr) (a:Act) (w:World),Inv X A (st ops.size) a.tmps w→a.defers=[]→Q .normal a w):
 ∀(fuel:Nat) (listed:Array Bool) (A:Fr) (a:Act) (w:World),listed.size=ops.size→(List.range ops.size).countP (fun k=> !listed.getD k true)≤fuel→Closed ops (fun k=>listed.getD k false=true)→a.defers=[]→
  xiq X σ0 recs m ops.size st (fun k=>listed.getD k false=true) A a w→wpAny X.P .any ops Q fuel listed a w:=by
 have hap:Apart recs:=fun q q' f f' h1 h2 e=>by have k1:=hrd q f h1;have k2:=hrd q' f' h2;rw [e] at k1;exact zqh hds k1 k2
 have conv:∀(L:Nat→Prop) (A:Fr) (a:Act) (w:World) (τ:St),(∀k,L k→k<m)→(∀k,k<m→L k)→Rep σ0 recs L τ→RepB σ0.b recs L τ.b→Inv X A τ a.tmps w→Inv X A (st m) a.tmps w:=by
  intro L A a w τ h1 h2 h3 h4 hi;have hall:∀(q:Nat) (f:Rec),recs[q]? =some f→L q:=fun q f hq=>h2 q (by have:=(List.getElem?_eq_some_iff.1 hq).1;omega)
  refine hi.eqv ⟨fun t=> ?_,fun t=> ?_,fun p hp=> ?_⟩
  ·rw [hst];show τ.get t=σ1.get t;by_cases hex:∃(q:Nat) (f:Rec),recs[q]? =some f∧f.d=t
   ·obtain ⟨q,f,k1,rfl⟩:=hex;rw [h3.got q f k1 (hall q f k1),hrep.got q f k1 trivial]
   ·have hno:∀(q:Nat) (f:Rec),recs[q]? =some f→f.d≠t:=fun q f k1 k2=>hex ⟨q,f,k1,k2⟩
    rw [h3.get t fun q f k1 _=>hno q f k1,hrep.get t fun q f k1 _=>hno q f k1]
  ·rw [hst,hb1];exact h4.same hrb t fun q f v k1 _ _=>⟨fun _=>trivial,fun _=>hall q f k1⟩
  ·rw [hst] at hp;rcases hrep.ent p hp with k1|⟨q,f,k1,_,rfl⟩
   ·exact h3.ent0 p k1
   ·exact h3.ent1 q f k1 (hall q f k1)
 have done:∀(listed:Array Bool) (A:Fr) (a:Act) (w:World),listed.size=ops.size→a.defers=[]→xiq X σ0 recs m ops.size st (fun k=>listed.getD k false=true) A a w→Region.ready .any ops listed=[]→Q .normal a w:=by
  intro listed A a w hsz hdef hph hr;have hall:∀k,k<ops.size→listed.getD k false=true:=by
   intro k
   induction k using Nat.strongRecOn with
   |_ k ih=>
    intro hk;cases hlk:listed.getD k false with
    |true=>rfl
    |false=>
     exfalso;have hu:listed.getD k true=false:=by rw [Array.getD_eq_getD_getElem?] at hlk ⊢;rw [Array.getElem?_eq_getElem (by omega)] at hlk ⊢;exact hlk
     have hmem:k∈Region.ready .any ops listed:=mem_ready.2 ⟨hu,ops[k],Array.getElem?_eq_getElem hk,fun e he hb=>by have:=qyi ops.toList 0 hE k ops[k] (by rw [Array.getElem?_toList];exact Array.getElem?_eq_getElem hk) e he hb;exact ih e.on (by omega) (by omega)⟩;rw [hr] at hmem;cases hmem
  rcases hph with ⟨τ,h1,h2,h3,h4⟩|⟨k,h1,h2,h3,h4⟩
  ·have hm:m=ops.size:=by
    rcases Nat.lt_or_ge m ops.size with h|h
    ·have:=h1 m (hall m h);omega
    ·omega
   have:=conv _ A a w τ h1 (fun k hk=>hall k (by omega)) h2 h3 h4
   rw [hm] at this;exact hq A a w this hdef
  ·have hk:k=ops.size:=by
    rcases Nat.lt_or_ge k ops.size with h|h
    ·have:=(h3 k).1 (hall k h);omega
    ·omega
   rw [hk] at h4;exact hq A a w h4 hdef
 intro fuel
 induction fuel with
 |zero=>
  intro listed A a w hsz hcnt hcl hdef hph;have hr:Region.ready .any ops listed=[]:=List.eq_nil_iff_forall_not_mem.2 fun i hi=>by obtain ⟨hu,o,ho,_⟩:=mem_ready.1 hi;have hlt:=(Array.getElem?_eq_some_iff.1 ho).1;have:0<(List.range ops.size).countP (fun k=> !listed.getD k true):=List.countP_pos_iff.2 ⟨i,List.mem_range.2 hlt,by simp only [hu,Bool.not_false]⟩;omega
  exact ⟨hr,done listed A a w hsz hdef hph hr⟩
 |succ fuel ih=>
  intro listed A a w hsz hcnt hcl hdef hph;refine ⟨done listed A a w hsz hdef hph,fun i hi=> ?_⟩;obtain ⟨hu,o,ho,hedges⟩:=mem_ready.1 hi;have hlt:=(Array.getElem?_eq_some_iff.1 ho).1;have hnl:=yzk hu;have hset:=yqm hu;have bits:∀j,Nat.testBit (bs.getD i 0) j=true→j<i∧listed.getD j false=true:=fun j hj=>by rw [hbs] at hj;obtain ⟨k1,k2⟩:=qyn hE i o j ho hj;exact ⟨k1,k2 _ hcl hedges⟩
  have nxt:∀(A':Fr) (a':Act) (w':World),a'.defers=[]→xiq X σ0 recs m ops.size st (fun k=>(listed.setIfInBounds i true).getD k false=true) A' a' w'→wpAny X.P .any ops Q fuel (listed.setIfInBounds i true) a' w':=fun A' a' w' hd' hp'=>by
   refine ih _ A' a' w' (by simp [hsz]) ?_ ?_ hd' hp'
   ·have:(List.range ops.size).countP (fun k=> !(listed.setIfInBounds i true).getD k true)<(List.range ops.size).countP (fun k=> !listed.getD k true):=by
     refine yhz (i:=i) (fun x _ hx=> ?_) (List.mem_range.2 hlt) (by simp only [hu,Bool.not_false]) (by simp [hsz,hlt]);by_cases hxi:i=x
     ·subst hxi;simp only [hu,Bool.not_false]
     ·rw [getD_set_ne true hxi] at hx;exact hx
    omega
   ·intro k ok hok hk e he hb;rw [hset] at hk ⊢;left;rcases hk with hk|rfl
    ·exact hcl k ok hok hk e he hb
    ·rw [ho] at hok;cases hok;exact hedges e he hb
  have second:∀k,m≤k→k≤ops.size→(∀j,listed.getD j false=true↔j<k)→Inv X A (st k) a.tmps w→wpOp X.P ops Q i (wpAny X.P .any ops Q fuel (listed.setIfInBounds i true)) a w:=fun k hk1 hk2 hk3 hinv=>by
   have hik:i=k:=by
    rcases Nat.lt_trichotomy i k with h|h|h
    ·exact absurd ((hk3 i).2 h) hnl
    ·exact h
    ·have hf:=hfull i (by omega) hlt;have:=bits k (by rw [hf,Nat.testBit_two_pow_sub_one];exact decide_eq_true h);have:=(hk3 k).1 this.2;omega
   subst hik;refine hsteps i hk1 hlt A a w hinv hdef _ Q fun A' a' w' hi' hd'=>nxt A' a' w' hd' (.inr ⟨i+1,by omega,by omega,fun j=> ?_,hi'⟩)
   show (listed.setIfInBounds i true).getD j false=true↔j<i+1;rw [hset,hk3];omega
  rcases hph with ⟨τ,h1,h2,h3,h4⟩|⟨k,h1,h2,h3,h4⟩
  ·by_cases him:i<m
   ·obtain ⟨o',f,σq,bq,k1,k2,k3,k4,k5,k6,k7,k9,k8⟩:=(hfacts i him).ex;rw [ho] at k1;cases k1;have hdi:=hrd i f k2;have before:∀(q z:Nat),q<m→listed.getD q false=true→(z=q∨Nat.testBit (bs.getD q 0) z=true)→listed.getD z false=true:=fun q z hq hq2 h=>by
     rcases h with rfl|h
     ·exact hq2
     ·obtain ⟨o2,_,_,_,j1,_⟩:=(hfacts q hq).ex;rw [hbs] at h;exact (qyn hE q o2 z j1 h).2 _ hcl fun e he hb=>hcl q o2 j1 hq2 e he hb
    have noref:∀(q:Nat),q<m→listed.getD q false=true→qeh bs ds q f.d=true→False:=fun q hq hq2 href=>by
     unfold qeh at href;cases hidx:idxN f.d ds 0 with
     |none=>exact qtj hidx (List.mem_of_getElem? hdi)
     |some z=>simp only [hidx,Bool.or_eq_true] at href;obtain ⟨_,hdz⟩:=qjn hidx;rw [Nat.sub_zero] at hdz;have hzi:z=i:=zqh hds hdz hdi;subst hzi;exact hnl (before q z hq hq2 (href.imp (fun h=>Nat.eq_of_beq_eq_true h) id))
    have hqm:∀(q:Nat) (g:Rec),recs[q]? =some g→q<m:=fun q g hg=>by have:=(List.getElem?_eq_some_iff.1 hg).1;omega
    have writers:∀(q:Nat) (g:Rec) v,recs[q]? =some g→g.bx=some v→∃z,ds[z]? =some v.1∧(z=q∨Nat.testBit (bs.getD q 0) z=true)∧(z=q∨g.d=1000000+v.1):=fun q g v hg hv=>by obtain ⟨o2,g2,_,_,_,j2,j3,_,_,_,j7,_⟩:=(hfacts q (hqm q g hg)).ex;rw [hg] at j2;cases j2;obtain ⟨_,⟨z,h1,h2⟩,_,h4⟩:=j7 v hv;refine ⟨z,h1,h2,h4.imp (fun e=> ?_) id⟩;rw [e] at h1;exact zqh hds h1 j3
    have late:∀v,f.bx=some v→∀(q':Nat) f' v',recs[q']? =some f'→listed.getD q' false=true→i<q'→f'.bx=some v'→v'.1≠v.1:=fun v hv q' f' v' hf' hL hlt hv' e=>by
     obtain ⟨z,y1,y2,y3⟩:=writers i f v k2 hv;obtain ⟨z',y1',y2',y3'⟩:=writers q' f' v' hf' hv';rw [e] at y1';have hzz:z=z':=zqh hds y1 y1';subst hzz;have hzl:listed.getD z false=true:=before q' z (hqm q' f' hf') hL y2';rcases y3 with rfl|y3
     ·exact hnl hzl
     ·rcases y3' with rfl|y3'
      ·rcases y2 with rfl|y2
       ·exact hnl hzl
       ·have:=(bits z y2).1;omega
      ·rw [e] at y3';have:=hap i q' f f' k2 hf' (by rw [y3,y3']);omega
    refine k8 τ (fun t ht=> ?_) (fun d' hd'=> ?_) (fun v hv hne=> ?_) ⟨fun p hp hr=> ?_,fun p hp=> ?_⟩ A a w h4 hdef _ Q fun A' a' w' hi' hd'=>nxt A' a' w' hd' (.inl ⟨τ.addR f,fun k hk=> ?_,(h2.add hap k2 hnl).congr fun q=>(hset q).symm,(h3.add k2 hnl late).congr fun q=>(hset q).symm,hi'⟩)
    ·have hdep:=k5 t ht;unfold qwt at hdep;cases hidx:idxN t ds 0 with
     |none=>
      have hnd:=qtj hidx;have hno:∀(q:Nat) (g:Rec),recs[q]? =some g→g.d≠t:=fun q g hg e=>hnd (e▸List.mem_of_getElem? (hrd q g hg))
      rw [h2.get t fun q g hg _=>hno q g hg,k4.get t fun q g hg _=>hno q g hg]
     |some q=>
      simp only [hidx] at hdep;obtain ⟨_,hdq⟩:=qjn hidx;rw [Nat.sub_zero] at hdq;obtain ⟨b1,b2⟩:=bits q hdep;have hqm:q<recs.length:=by omega
      have hg:=List.getElem?_eq_getElem hqm;have hgd:=hrd q _ hg;rw [hdq] at hgd;cases hgd;rw [h2.got q _ hg b2,k4.got q _ hg b1]
    ·exact h3.get d' fun q g v hg hS hv e=>by obtain ⟨o2,g2,_,_,_,j2,_,_,_,_,j7,_⟩:=(hfacts q (hqm q g hg)).ex;rw [hg] at j2;cases j2;exact hd' (e▸(j7 v hv).1)
    ·
     refine h3.same k9 v.1 fun q g v' hg hv' e=> ?_
     obtain ⟨z,y1,y2,y3⟩:=writers i f v k2 hv;have y3:f.d=1000000+v.1:=y3.elim (fun e=>by subst e;rw [hdi] at y1;exact absurd (Option.some.inj y1).symm hne) id;have hzi:z≠i:=fun e=>by subst e;rw [hdi] at y1;exact hne (Option.some.inj y1).symm
     have hzb:=bits z (y2.resolve_left hzi);obtain ⟨z',y1',_,y3'⟩:=writers q g v' hg hv';rw [e] at y1' y3';have hzz:z=z':=zqh hds y1 y1';subst hzz;rcases y3' with rfl|y3'
     ·exact ⟨fun _=>hzb.1,fun _=>hzb.2⟩
     ·have:=hap i q f g k2 hg (by rw [y3,y3']);subst this;exact ⟨fun h=>absurd h hnl,fun h=>absurd h (Nat.lt_irrefl _)⟩
    ·rcases h2.ent p hp with q1|⟨q,g,q1,q2,rfl⟩
     ·exact h0 f.d (List.mem_append_left _ (qtr q1 hr)) (List.mem_of_getElem? hdi)
     ·obtain ⟨o2,g2,_,_,j1,j2,_,_,_,j6,_⟩:=(hfacts q (hqm q g q1)).ex;rw [q1] at j2;cases j2;exact noref q (hqm q g q1) q2 (j6 f.d hr)
    ·rcases h3.ent p hp with q1|⟨q,g,q1,q2,q3⟩
     ·obtain ⟨r1,r2⟩:=quh q1;exact ⟨fun e=>h0 p.1 (List.mem_append_right _ r1) (e▸List.mem_of_getElem? hdi),fun c hc hr=>h0 f.d (List.mem_append_right _ (r2 f.d (List.mem_flatMap.2 ⟨c,hc,hr⟩))) (List.mem_of_getElem? hdi)⟩
     ·obtain ⟨o2,g2,_,_,j1,j2,_,_,_,_,j7,_⟩:=(hfacts q (hqm q g q1)).ex;rw [q1] at j2;cases j2;obtain ⟨_,⟨z,y1,y2⟩,y3,_⟩:=j7 p q3;refine ⟨fun e=> ?_,fun c hc hr=>noref q (hqm q g q1) q2 (y3 c hc f.d hr)⟩;rw [←e] at y1;have:=zqh hds y1 hdi;subst this;exact hnl (before q z (hqm q g q1) q2 y2)
    ·rcases (hset k).1 hk with hk|rfl
     ·exact h1 k hk
     ·exact him
   ·
    have hall:∀j,j<m→listed.getD j false=true:=fun j hj=>by have hf:=hfull i (by omega) hlt;exact (bits j (by rw [hf,Nat.testBit_two_pow_sub_one];exact decide_eq_true (by omega))).2
    exact second m (Nat.le_refl _) hmn (fun j=>⟨h1 j,hall j⟩) (conv _ A a w τ h1 hall h2 h3 h4)
  ·exact second k h1 h2 h3 h4
theorem ylj {id:Nat} {R:Type} {K:St→Option R} {r:R} {σ:St} (hT:qel X.P X.E) (hR:qaq X.P X.E run) (hd:∀o∈ops.toList,∀d,o.dst=some d→d<X.n)
 (h:qyj X.E run ops.toList σ K=some r):∃σ',K σ'=some r∧zii X (.region id ops true) σ .normal σ':=by
 unfold qyj at h;simp only at h;generalize hbs:znc ops.toList []=bs at h;generalize hm:zvx bs 0 0=m at h;generalize hdsd:(ops.toList.take m).map dOf=ds at h;generalize (ops.toList.take m).filterMap (fun o=>bif ywc o.op then o.dst else none)=nn at h;cases hcond:(nodup ds&&(qhc 0 ops.toList&&σ.refs.all fun s=> !mem ds s)) with
 |false=>rw [hcond] at h;cases h
 |true=>
  rw [hcond] at h;simp only [cond_true] at h;simp only [Bool.and_eq_true,List.all_eq_true,Bool.not_eq_true'] at hcond;obtain ⟨hds,hE,h0⟩:=hcond;have hblen:bs.length=ops.size:=by rw [←hbs,(qdc ops.toList []).1];simp
  obtain ⟨_,hml,hfull⟩:=qcr bs 0 0 (Nat.le_refl _);rw [hm] at hml hfull;have hmn:m≤ops.size:=by omega
  have hdlen:ds.length=m:=by rw [←hdsd];simp;omega
  have hrep0:Rep σ [] (fun _=>True) σ:=⟨fun _ _=>rfl,fun q f hq=>by simp at hq,fun p hp=>.inl hp,fun p hp=>hp,fun q f hq=>by simp at hq⟩;have hrb0:RepB σ.b [] (fun _=>True) ([]++σ.b):=⟨fun _ _=>rfl,fun q f v hq=>by simp at hq,fun p hp=>.inl hp⟩;obtain ⟨recs,σ1,nb,k1,_,k3,k4,k5,k6,k7,k8⟩:=qtp (ops:=ops) hT hR hd (bs:=bs) (ds:=ds) (nn:=nn) (σ0:=σ) hds (ops.toList.take m) 0 σ [] [] (fun q o hq=>by
   rw [Nat.zero_add];rw [List.getElem?_take] at hq;split at hq
   ·refine ⟨by rw [←Array.getElem?_toList];exact hq,?_⟩;rw [←hdsd,List.getElem?_map,List.getElem?_take,if_pos (by assumption),hq];rfl
   ·cases hq) rfl (fun q f hq=>by simp at hq) hrep0 rfl hrb0 h
  have hrl:recs.length=m:=by rw [k1];simp;omega
  obtain ⟨st,s1,s2,s3⟩:=ygq hT hR hd (ops.toList.drop m) m _ rfl k4;have hlen2:m+(ops.toList.drop m).length=ops.size:=by simp;omega
  rw [hlen2] at s2 s3;refine ⟨st ops.size,s2,fun A a w Q hi hdef hq=> ?_⟩;refine wp_region_any hT.mixed ?_;have hi':Inv X A σ a.tmps {w with drawn:=w.drawn+1}:=hi.drew;refine ykl (X:=X) (nn:=nn) (σ1:=σ1) (nb:=nb) hbs.symm hE hds hrl hmn k3 hdlen (fun s hs hx=>by have:=h0 s hs;rw [mem_iff.2 hx] at this;cases this) k5 k6 k7
   (fun q hq=>k8 q (Nat.zero_le _) (by simp;omega)) s1 s3 (fun k hk1 hk2=> ?_) (fun A a w hi hd=>hq A a w hi hd) ops.size (Array.replicate ops.size false) A a _ (by simp) ?_ ?_ hdef (.inl ⟨σ,fun k hk=> ?_,?_,?_,hi'⟩)
  ·have hb:k<bs.length:=by omega
   have:=hfull k (by omega) _ (List.getElem?_eq_getElem hb);rw [Nat.zero_add] at this;rw [List.getD_eq_getElem?_getD,List.getElem?_eq_getElem hb];exact this
  ·exact Nat.le_trans (List.countP_le_length ..) (by simp)
  ·intro k o ho hk;exfalso;by_cases h:k<ops.size<;>simp [h] at hk
  ·exfalso;by_cases h:k<ops.size<;>simp [h] at hk
  ·have hno:∀k,¬(Array.replicate ops.size false).getD k false=true:=fun k hk=>by by_cases h:k<ops.size<;>simp [h] at hk
   exact ⟨fun _ _=>rfl,fun q f _ hS=>(hno q hS).elim,fun p hp=>.inl hp,fun p hp=>hp,fun q f _ hS=>(hno q hS).elim⟩
  ·have hno:∀k,¬(Array.replicate ops.size false).getD k false=true:=fun k hk=>by by_cases h:k<ops.size<;>simp [h] at hk
   exact ⟨fun _ _=>rfl,fun q f v _ hS=>(hno q hS).elim,fun p hp=>.inl hp⟩
theorem yqx {id:Nat} {R:Type} {K:St→Option R} {r:R} {σ:St} (hT:qel X.P X.E) (hR:qaq X.P X.E run) (hd:∀o∈ops.toList,∀d,o.dst=some d→d<X.n)
 (h:xcu X.E run ops.toList σ K=some r):∃σ',K σ'=some r∧zii X (.region id ops true) σ .normal σ':=by
 obtain ⟨σ',h1,h2⟩:=ylj (id:=id) hT hR hd h;refine ⟨σ',h1,fun A a w Q hi hdef hq=> ?_⟩;obtain ⟨A',hi',_⟩:=hi.release (yuh σ (ops.toList.take (zvx (znc ops.toList []) 0 0)));exact h2 A' a w Q hi' hdef hq
end
def zla (n:Nat):Code→Bool
 | .region _ ops _=>ops.toList.all fun o=>match o.dst with|some d=>decide (d<n)|none=>true
 | .seq a b=>zla n a&&zla n b
 | .cond _ a b=>zla n a&&zla n b
 | .block _ c=>zla n c
 | .loop c=>zla n c
 | .scope c=>zla n c
 |_=>true
section
variable {X:Ctx} {run:Runs X.E} {fuel f:Nat}
theorem zii.seq {c d:Code} {σ σ1 σ':St} {e:Ex} (h1:zii X c σ .normal σ1) (h2:zii X d σ1 e σ'):zii X (.seq c d) σ e σ':=
 fun A a w Q hi hd hq=>wp_seq (h1 A a w _ hi hd fun A' a' w' hi' hd'=>h2 A' a' w' Q hi' hd' hq)
theorem zii.qkw {c d:Code} {σ σ':St} {e:Ex} (he:e≠.normal) (h1:zii X c σ e σ'):zii X (.seq c d) σ e σ':=
 fun A a w Q hi hd hq=>wp_seq (h1 A a w _ hi hd fun A' a' w' hi' hd'=>by
  cases e with
  |normal=>exact absurd rfl he
  |_=>exact hq A' a' w' hi' hd')
theorem qxu {c:Code} {ex:List Ex} {hs os:Shape} {body:St→(Ex→St→Option (Nat×Tup os.ks))→Option (Nat×Tup os.ks)}
 (hb:∀σ K r,body σ K=some r→∃e σ',K e σ'=some r∧zii X c σ e σ'):∀(n:Nat) (x:Tup hs.ks) (i:Nat) (y:Tup os.ks),qwk (hs:=hs) (os:=os) ex body n x=some (i,y)→
  ∃e,qco e ex 0=some i∧∀(A:Fr) (a:Act) (w:World) (Q:Exit→Act→World→Prop),Inv X A (stOf hs x) a.tmps w→a.defers=[]→(∀A' a' w',Inv X A' (stOf os y) a'.tmps w'→a'.defers=[]→Q e.out a' w')→qfp X.P c Q a w
 |0,x,i,y,h=>by simp [qwk] at h
 |n+1,x,i,y,h=>by
  simp only [qwk] at h;obtain ⟨e,σ',h1,h2⟩:=hb _ _ _ h;have leave:e≠.normal→(match qco e ex 0,zks σ' os with|some i,some y=>some (i,y)|_,_=>none)=some (i,y)→
   ∃e,qco e ex 0=some i∧∀(A:Fr) (a:Act) (w:World) (Q:Exit→Act→World→Prop),Inv X A (stOf hs x) a.tmps w→a.defers=[]→(∀A' a' w',Inv X A' (stOf os y) a'.tmps w'→a'.defers=[]→Q e.out a' w')→qfp X.P c Q a w:=fun hne h1=>by
   split at h1
   ·rename_i i' y' hi' hy';cases h1;refine ⟨e,hi',fun A a w Q hi hd hq=>qfp.pass (h2 A a w _ hi hd fun A' a' w' hi' hd'=> ?_)⟩;obtain ⟨A'',hA''⟩:=zou hi' hy';cases e with
    |normal=>exact absurd rfl hne
    |_=>exact hq A'' a' w' hA'' hd'
   ·cases h1
  cases e with
  |normal=>
   simp only at h1;split at h1
   ·rename_i y' hy';obtain ⟨e,he,hl⟩:=qxu hb n y' i y h1;refine ⟨e,he,fun A a w Q hi hd hq=>qfp.pass (h2 A a w _ hi hd fun A' a' w' hi' hd'=> ?_)⟩;obtain ⟨A'',hA''⟩:=zou hi' hy';exact hl A'' a' w' Q hA'' hd' hq
   ·cases h1
  |exit id=>exact leave (by simp) h1
  |goto l=>exact leave (by simp) h1
  |ret=>exact leave (by simp) h1
theorem qmo {c rest:Code} {l:Nat} (hl:findLabel c l=some rest) {ex:List Ex} {hs os:Shape} {body:St→(Ex→St→Option (Nat×Tup os.ks))→Option (Nat×Tup os.ks)}
 (hb:∀σ K r,body σ K=some r→∃e σ',K e σ'=some r∧zii X rest σ e σ'):∀(n:Nat) (x:Tup hs.ks) (i:Nat) (y:Tup os.ks),qim (hs:=hs) (os:=os) l ex body n x=some (i,y)→
  ∃e,qco e ex 0=some i∧e≠.goto l∧((∀l',e= .goto l'→findLabel c l'=none)→∀(A:Fr) (a:Act) (w:World) (Q:Exit→Act→World→Prop),Inv X A (stOf hs x) a.tmps w→a.defers=[]→(∀A' a' w',Inv X A' (stOf os y) a'.tmps w'→a'.defers=[]→Q e.out a' w')→zlw X.P c rest Q a w)
 |0,x,i,y,h=>by simp [qim] at h
 |n+1,x,i,y,h=>by
  simp only [qim] at h;obtain ⟨e,σ',h1,h2⟩:=hb _ _ _ h;have leave:e≠.goto l→(match qco e ex 0,zks σ' os with|some i,some y=>some (i,y)|_,_=>none)=some (i,y)→
   ∃e,qco e ex 0=some i∧e≠.goto l∧((∀l',e= .goto l'→findLabel c l'=none)→∀(A:Fr) (a:Act) (w:World) (Q:Exit→Act→World→Prop),Inv X A (stOf hs x) a.tmps w→a.defers=[]→(∀A' a' w',Inv X A' (stOf os y) a'.tmps w'→a'.defers=[]→Q e.out a' w')→zlw X.P c rest Q a w):=fun hne h1=>by
   split at h1
   ·rename_i i' y' hi' hy';cases h1;refine ⟨e,hi',hne,fun hnl A a w Q hi hd hq=>zlw.pass hl (h2 A a w _ hi hd fun A' a' w' hi' hd'=> ?_)⟩;obtain ⟨A'',hA''⟩:=zou hi' hy';have:=hq A'' a' w' hA'' hd';cases e with
    |goto l'=>exact .inr ⟨hnl l' rfl,this⟩
    |_=>exact this
   ·cases h1
  cases e with
  |goto l'=>
   simp only at h1;by_cases hll:l'=l
   ·subst hll;simp only [if_true] at h1;split at h1
    ·rename_i y' hy';obtain ⟨e,he,hne,hl2⟩:=qmo hl hb n y' i y h1;refine ⟨e,he,hne,fun hnl A a w Q hi hd hq=>zlw.pass hl (h2 A a w _ hi hd fun A' a' w' hi' hd'=> ?_)⟩;obtain ⟨A'',hA''⟩:=zou hi' hy';exact .inl ⟨rfl,hl2 hnl A'' a' w' Q hA'' hd' hq⟩
    ·cases h1
   ·simp only [hll,if_false] at h1;exact leave (by simp [hll]) h1
  |normal=>exact leave (by simp) h1
  |exit id=>exact leave (by simp) h1
  |ret=>exact leave (by simp) h1
theorem qlv (hT:qel X.P X.E) (hR:qaq X.P X.E run):∀(c:Code),zla X.n c=true→∀(cur:Nat) {R:Type} (σ:St) (K:Ex→St→Option R) (r:R),
 (zft X.E run fuel f c cur none σ K=some r→∃e σ',K e σ'=some r∧zii X c σ e σ')∧
 ∀l,zft X.E run fuel f c cur (some l) σ K=some r→∃rest,findLabel c l=some rest∧∃e σ',K e σ'=some r∧zii X rest σ e σ':=by
 intro c
 induction c with
 |skip=>intro _ cur R σ K r;refine ⟨fun h=>⟨.normal,σ,h,fun A a w Q hi hd hq=>wp_skip (hq A a w hi hd)⟩,fun l h=>by simp [zft] at h⟩
 |region id ops dr=>
  intro hok cur R σ K r;have hd:∀o∈ops.toList,∀d,o.dst=some d→d<X.n:=fun o ho d hdst=>by
   have:=List.all_eq_true.1 hok o ho
   simpa [hdst] using this
  refine ⟨fun h=> ?_,fun l h=>by simp [zft] at h⟩;simp only [zft] at h;cases dr with
  |true=>simp only [cond_true] at h;obtain ⟨σ',h1,h2⟩:=yqx (id:=id) hT hR hd h;exact ⟨.normal,σ',h1,h2⟩
  |false=>simp only [cond_false] at h;obtain ⟨σ',h1,h2⟩:=qsj hT hR hd ops.toList 0 σ rfl h;refine ⟨.normal,σ',h1,fun A a w Q hi hdef hq=>wp_region ?_⟩;have:=h2 A a w hi hdef Q hq;rw [Array.length_toList] at this;rw [List.range_eq_range'];exact this
 |seq a b iha ihb=>
  intro hok cur R σ K r;simp only [zla,Bool.and_eq_true] at hok;refine ⟨fun h=> ?_,fun l h=> ?_⟩
  ·simp only [zft] at h;obtain ⟨e,σ1,h1,h2⟩:=(iha hok.1 cur σ _ r).1 h;cases e with
   |normal=>obtain ⟨e',σ',h3,h4⟩:=(ihb hok.2 cur σ1 K r).1 h1;exact ⟨e',σ',h3,h2.seq h4⟩
   |exit id=>exact ⟨_,σ1,h1,h2.qkw (by simp)⟩
   |goto l=>exact ⟨_,σ1,h1,h2.qkw (by simp)⟩
   |ret=>exact ⟨_,σ1,h1,h2.qkw (by simp)⟩
  ·simp only [zft] at h;cases hm:mem (zjc a) l with
   |true=>
    simp only [hm,cond_true] at h;obtain ⟨rest,hrest,e,σ1,h1,h2⟩:=(iha hok.1 cur σ _ r).2 l h;refine ⟨.seq rest b,by simp [findLabel,hrest],?_⟩;cases e with
    |normal=>obtain ⟨e',σ',h3,h4⟩:=(ihb hok.2 cur σ1 K r).1 h1;exact ⟨e',σ',h3,h2.seq h4⟩
    |exit id=>exact ⟨_,σ1,h1,h2.qkw (by simp)⟩
    |goto l=>exact ⟨_,σ1,h1,h2.qkw (by simp)⟩
    |ret=>exact ⟨_,σ1,h1,h2.qkw (by simp)⟩
   |false=>
    simp only [hm,cond_false] at h;obtain ⟨rest,hrest,h2⟩:=(ihb hok.2 cur σ K r).2 l h;have hnone:findLabel a l=none:=ztk fun hx=>by rw [mem_iff.2 hx] at hm;cases hm
    exact ⟨rest,by simp [findLabel,hnone,hrest],h2⟩
 |cond c a b iha ihb=>
  intro hok cur R σ K r;simp only [zla,Bool.and_eq_true] at hok;cases c with
  |tmp t=>
   refine ⟨fun h=> ?_,fun l h=>by simp [zft] at h⟩;simp only [zft] at h;split at h
   ·rename_i q hq;have ev:∀(A:Fr) (ac:Act) (w:World),Inv X A σ ac.tmps w→ac.eval (.tmp t)= .bool q∧Inv X A (σ.put (some t) (.sv (.one (.bool q)))) ac.tmps w:=fun A ac w hi=>by have hv:=hi.slot t;rw [hq] at hv;exact ⟨hv,hi.xgy (d:=t) (by exact hv)⟩
    cases q with
    |true=>simp only [cond_true] at h;obtain ⟨e,σ',h1,h2⟩:=(iha hok.1 cur _ K r).1 h;exact ⟨e,σ',h1,fun A ac w Q hi hd hq=>wp_cond_true (ev A ac w hi).1 (h2 A ac w Q (ev A ac w hi).2 hd hq)⟩
    |false=>simp only [cond_false] at h;obtain ⟨e,σ',h1,h2⟩:=(ihb hok.2 cur _ K r).1 h;exact ⟨e,σ',h1,fun A ac w Q hi hd hq=>wp_cond_false (ev A ac w hi).1 (h2 A ac w Q (ev A ac w hi).2 hd hq)⟩
   ·cases h
  |_=>exact ⟨fun h=>by simp [zft] at h,fun l h=>by simp [zft] at h⟩
 |block id c ih=>
  intro hok cur R σ K r;refine ⟨fun h=> ?_,fun l h=>by simp [zft] at h⟩;simp only [zft] at h;obtain ⟨e,σ',h1,h2⟩:=(ih hok id σ _ r).1 h;cases e with
  |exit id'=>
   simp only at h1;by_cases hid:id'=id
   ·subst hid;simp only [if_true] at h1;exact ⟨.normal,σ',h1,fun A a w Q hi hd hq=>wp_block (h2 A a w _ hi hd fun A' a' w' hi' hd'=>by show Exit.inBlock id' Q (.exit id') a' w';simp only [Exit.inBlock,if_true];exact hq A' a' w' hi' hd')⟩
   ·simp only [hid,if_false] at h1;exact ⟨.exit id',σ',h1,fun A a w Q hi hd hq=>wp_block (h2 A a w _ hi hd fun A' a' w' hi' hd'=>by show Exit.inBlock id Q (.exit id') a' w';simp only [Exit.inBlock,hid,if_false];exact hq A' a' w' hi' hd')⟩
  |normal=>exact ⟨.normal,σ',h1,fun A a w Q hi hd hq=>wp_block (h2 A a w _ hi hd fun A' a' w' hi' hd'=>hq A' a' w' hi' hd')⟩
  |goto l=>exact ⟨.goto l,σ',h1,fun A a w Q hi hd hq=>wp_block (h2 A a w _ hi hd fun A' a' w' hi' hd'=>hq A' a' w' hi' hd')⟩
  |ret=>exact ⟨.ret,σ',h1,fun A a w Q hi hd hq=>wp_block (h2 A a w _ hi hd fun A' a' w' hi' hd'=>hq A' a' w' hi' hd')⟩
 |loop c ih=>
  intro hok cur R σ K r;refine ⟨fun h=> ?_,fun l h=>by simp [zft] at h⟩;simp only [zft] at h;split at h
  ·cases h
  ·rename_i hs os hshape;split at h
   ·cases h
   ·rename_i x hx;simp only [Option.bind_eq_some_iff] at h;obtain ⟨⟨i,y⟩,h1,h2⟩:=h;obtain ⟨e,he,hl⟩:=qxu (c:=c) (fun σ K r h=>(ih hok cur σ K r).1 h) fuel x i y h1;refine ⟨e,stOf os y,qsf he h2,fun A a w Q hi hd hq=>qfp.wp ?_⟩;obtain ⟨A',hA'⟩:=zou hi hx;exact hl A' a w Q hA' hd hq
 |scope c ih=>
  intro hok cur R σ K r;refine ⟨fun h=> ?_,fun l h=>by simp [zft] at h⟩;simp only [zft] at h;obtain ⟨e,σ1,h1,h2⟩:=(ih hok cur σ _ r).1 h;cases e with
  |goto l=>
   simp only at h1;cases hm:mem (zjc c) l with
   |false=>
    simp only [hm,cond_false] at h1;have hnone:findLabel c l=none:=ztk fun hx=>by rw [mem_iff.2 hx] at hm;cases hm
    exact ⟨.goto l,σ1,h1,fun A a w Q hi hd hq=>zlw.straight (h2 A a w _ hi hd fun A' a' w' hi' hd'=>⟨hnone,hq A' a' w' hi' hd'⟩)⟩
   |true=>
    simp only [hm,cond_true] at h1;obtain ⟨rest,hrest⟩:=qgt (mem_iff.1 hm);split at h1
    ·rename_i hs os hshape;split at h1
     ·cases h1
     ·rename_i x hx;simp only [Option.bind_eq_some_iff] at h1;obtain ⟨⟨i,y⟩,h3,h4⟩:=h1;obtain ⟨e,he,hne,hl⟩:=qmo hrest (fun σ K r h=>by obtain ⟨rest',hr',h5⟩:=(ih hok cur σ K r).2 l h;rw [hrest] at hr';cases hr';exact h5) fuel x i y h3;have h5:=qsf he h4;cases hin:e.inside (zjc c) with
      |true=>simp [hin] at h5
      |false=>
       simp only [hin,cond_false] at h5;have hnl:∀l',e= .goto l'→findLabel c l'=none:=fun l' hl'=>ztk fun hx=>by subst hl';simp only [Ex.inside,mem_iff.2 hx] at hin;cases hin
       refine ⟨e,stOf os y,h5,fun A a w Q hi hd hq=>zlw.wp (zlw.pass hrest (h2 A a w _ hi hd fun A' a' w' hi' hd'=> ?_))⟩;obtain ⟨A'',hA''⟩:=zou hi' hx;exact .inl ⟨rfl,hl hnl A'' a' w' Q hA'' hd' hq⟩
    ·cases h1
  |normal=>exact ⟨.normal,σ1,h1,fun A a w Q hi hd hq=>zlw.straight (h2 A a w _ hi hd fun A' a' w' hi' hd'=>hq A' a' w' hi' hd')⟩
  |exit id=>exact ⟨.exit id,σ1,h1,fun A a w Q hi hd hq=>zlw.straight (h2 A a w _ hi hd fun A' a' w' hi' hd'=>hq A' a' w' hi' hd')⟩
  |ret=>exact ⟨.ret,σ1,h1,fun A a w Q hi hd hq=>zlw.straight (h2 A a w _ hi hd fun A' a' w' hi' hd'=>hq A' a' w' hi' hd')⟩
 |exit id=>intro _ cur R σ K r;exact ⟨fun h=>⟨.exit id,σ,h,fun A a w Q hi hd hq=>wp_exit (hq A a w hi hd)⟩,fun l h=>by simp [zft] at h⟩
 |goto l'=>intro _ cur R σ K r;exact ⟨fun h=>⟨.goto l',σ,h,fun A a w Q hi hd hq=>wp_goto (hq A a w hi hd)⟩,fun l h=>by simp [zft] at h⟩
 |ret=>intro _ cur R σ K r;exact ⟨fun h=>⟨.ret,σ,h,fun A a w Q hi hd hq=>wp_ret (hq A a w hi hd)⟩,fun l h=>by simp [zft] at h⟩
 |label l'=>
  intro _ cur R σ K r;refine ⟨fun h=>⟨.normal,σ,h,fun A a w Q hi hd hq=>wp_label (hq A a w hi hd)⟩,fun l h=> ?_⟩;simp only [zft] at h;cases hb:Nat.beq l' l with
  |false=>simp [hb] at h
  |true=>simp only [hb,cond_true] at h;have:=Nat.eq_of_beq_eq_true hb;subst this;exact ⟨.skip,by simp [findLabel],.normal,σ,h,fun A a w Q hi hd hq=>wp_skip (hq A a w hi hd)⟩
 |_=>intro _ cur R σ K r;exact ⟨fun h=>by simp [zft] at h,fun l h=>by simp [zft] at h⟩
end
theorem zjd {n m:Nat} (h:n≤m):∀{c:Code},zla n c=true→zla m c=true
 | .region _ ops _,hc=>by
   simp only [zla,List.all_eq_true] at hc ⊢;intro o ho;have:=hc o ho;cases hd:o.dst with
   |none=>rfl
   |some d=>simp only [hd,decide_eq_true_eq] at this ⊢;exact Nat.lt_of_lt_of_le this h
 | .seq a b,hc=>by simp only [zla,Bool.and_eq_true] at hc ⊢;exact ⟨zjd h hc.1,zjd h hc.2⟩
 | .cond _ a b,hc=>by simp only [zla,Bool.and_eq_true] at hc ⊢;exact ⟨zjd h hc.1,zjd h hc.2⟩
 | .block _ c,hc=>by simp only [zla] at hc ⊢;exact zjd h hc
 | .loop c,hc=>by simp only [zla] at hc ⊢;exact zjd h hc
 | .scope c,hc=>by simp only [zla] at hc ⊢;exact zjd h hc
 | .skip,_| .exit ..,_| .goto ..,_| .ret,_| .label ..,_| .rangeFunc ..,_| .refuse ..,_=>rfl
section
variable {X:Ctx} {σ:St}
theorem yvr (hE:zgk X.P X.E) {t:TypeId} {p:PV} {s:SV} {A:Fr} {tm:Array Value} {w:World} {v:Value} (hi:Inv X A σ tm w) (hl:zkf X.E σ t p some=some s) (hx:RP (X.F A) A w p v):
 ∃ad u,v= .pointer (some ad)∧(loadVar t ad).run X.P w= .ok u w∧RS (X.F A) A w s u:=by
 have fin:∀ad,v= .pointer (some ad)→(∃v,(loadVar t ad).run X.P w= .ok v w∧RS (X.F A) A w s v)→∃ad u,v= .pointer (some ad)∧(loadVar t ad).run X.P w= .ok u w∧RS (X.F A) A w s u:=fun ad he ⟨u,hr,hs⟩=>⟨ad,u,he,hr,hs⟩
 match p,hl,hx with
 | .sv (.one (.box d off)),hl,hx=>
   obtain ⟨i,tid,cs,hti,hb,hle,hs⟩:=yhb hl;obtain ⟨b,hbx,he⟩:=hx;obtain ⟨b',vs,hbx',hh,hc⟩:=hi.box d tid cs hb;rw [hbx] at hbx';cases hbx';refine fin _ he (zkx hti (hE.ti t i hti) (zhe (zhf hc off) i.size) hs (by simp;omega) fun j u hj=> ?_);rw [zjf,cell_of_block hh]
   simpa using zoh _ _ _ _ _ hj
 | .sv (.one (.elem u y)),hl,hx=>obtain ⟨i,hti,hty,hs,hm⟩:=qxx hl;obtain ⟨ad,cs,he,hF,hc,hcell⟩:=At.ptr hm hx;exact fin _ he (zkx hti (hE.ti t i hti) hc.toPC hs (by rw [qhv];exact (hE.ti t i hti).ty u hty) hcell)
 | .sv (.one (.elemT u g n off)),hl,hx=>obtain ⟨i,e,xs,hti,hf,hle,hs⟩:=qtd hl;obtain ⟨b,cap,cur,htg,he,h0,hlt,hh,h1,h2,h3,h4⟩:=ycv hi hf hx;obtain ⟨ds,hds,hcell⟩:=h4 _ _ (ygd hlt);refine fin _ he (zkx hti (hE.ti t i hti) (zhe (zhf hds.toPC off) i.size) hs (by simp [qhv];omega) fun j z hj=> ?_);rw [zjf,cell_of_block hh,Nat.add_assoc];exact hcell _ _ (zoh _ _ _ _ _ hj)
 | .sv (.one (.pinp b u)),hl,hx=>
   simp only [zkf] at hl;split at hl
   ·cases hl
   ·rename_i i hti;split at hl
    ·rename_i hc;cases hl;obtain ⟨bo,hb,he,hF,hcell⟩:=hx;refine fin _ he (zkx (cs:=[.pin b u]) (vs:=[zhh u bo b]) hti (hE.ti t i hti) (.cons ⟨bo,hb,rfl,hF,hcell⟩ .nil) (by simp [Env.mkSV,hti,hc.2]) (by simp [hc.1]) fun j z hj=> ?_);cases j with
     |zero=>simp only [List.getElem?_cons_zero,Option.some.injEq] at hj;subst hj;simpa [Addr.add] using hcell
     |succ j=>simp at hj
    ·cases hl
 | .sv (.one (.pin _ _)),hl,_=>simp only [zkf] at hl;split at hl<;>cases hl
 | .undef,hl,_=>simp only [zkf] at hl;split at hl<;>cases hl
 | .void,hl,_=>simp only [zkf] at hl;split at hl<;>cases hl
 | .tup _,hl,_=>simp only [zkf] at hl;split at hl<;>cases hl
 | .sv (.agg _),hl,_=>simp only [zkf] at hl;split at hl<;>cases hl
 | .sv (.one (.bool _)),hl,_| .sv (.one (.int _ _)),hl,_| .sv (.one (.str _)),hl,_| .sv (.one .nilS),hl,_| .sv (.one (.slice _ _ _ _)),hl,_
 | .sv (.one (.clo _ _)),hl,_| .sv (.one (.fnv _)),hl,_| .sv (.one (.glob _)),hl,_| .sv (.one .dead),hl,_=>simp only [zkf] at hl;split at hl<;>cases hl
def yfm (tm:Array Value):ResultVar→Sem Value
 | .tmp t=>pure (tm.getD t undef)
 | .cell a t=>do loadVar t (←asAddr (tm.getD a undef))
theorem ypu (fn:Func) (tm:Array Value):results fn tm=(fn.results.mapM (yfm tm) >>= fun vs=>pure (if h:vs.size=1 then vs[0] else .tuple vs)):=by
 unfold results
 congr 2
theorem qmu (hE:zgk X.P X.E) {A:Fr} {tm:Array Value} {w:World} (hi:Inv X A σ tm w):∀{rs:List ResultVar} {l:List SV},qrs X.E σ rs=some l→
 ∃vs:List Value,(rs.mapM (yfm tm)).run X.P w= .ok vs w∧All2 (RS (X.F A) A w) l vs
 |[],l,h=>by simp only [qrs,Option.some.injEq] at h;subst h;exact ⟨[],by simp,.nil⟩
 |rv::rs,l,h=>by
  simp only [qrs] at h;split at h
  ·rename_i s l' hs hl;cases h;obtain ⟨vs,h1,h2⟩:=qmu hE hi hl;cases rv with
   |tmp t=>
    simp only [yua] at hs;split at hs
    ·rename_i s' hg;cases hs;have hv:=hi.slot t;rw [hg] at hv;refine ⟨tm.getD t undef::vs,?_,.cons hv h2⟩;rw [List.mapM_cons];simp [h1,yfm]
    ·cases hs
   |cell a t=>simp only [yua] at hs;obtain ⟨ad,u,he,hr,hu⟩:=yvr hE hi hs (hi.slot a);refine ⟨u::vs,?_,.cons hu h2⟩;rw [List.mapM_cons];simp [he,asAddr,hr,h1,yfm]
  ·cases h
theorem zyt (hE:zgk X.P X.E) {A:Fr} {a:Act} {w:World} (hi:Inv X A σ a.tmps w) {fn:Func} {tys:List TypeId} {ks:List Kd} {r:Tup ks} (h:qip X.E σ fn.results.toList tys ks=some r):
 ∃v,(results fn a.tmps).run X.P w= .ok v w∧∀d,∃T,xkz X.F0 X.G T X.W w d ks r v:=by
 unfold qip at h;split at h
 ·rename_i l hl;split at h
  ·rename_i H hH;cases hrb:H.rb.isEmpty with
   |false=>simp [hrb] at h
   |true=>
    simp only [hrb,cond_true] at h;have hrb':H.rb=[]:=by simpa using hrb
    obtain ⟨vs,hr,hvs⟩:=qmu hE hi hl;have hty:=zlx hi (ts:=tys) hvs;unfold handed at hH;split at hH
    ·rename_i H' hH';cases hok:H'.ok with
     |false=>simp [hok] at hH
     |true=>
      simp only [hok,cond_true,Option.some.injEq] at hH;subst hH;refine ⟨if h:vs.toArray.size=1 then vs.toArray[0] else .tuple vs.toArray,?_,fun d=> ?_⟩
      ·have hr':(fn.results.mapM (yfm a.tmps)).run X.P w= .ok vs.toArray w:=by rw [Array.mapM_eq_mapM_toList];simp only [Sem.run_map,hr];rfl
       rw [ypu,Sem.run_bind,hr'];rfl
      ·have hOK:=xbt d (Hand.yvf hok);have hsh:=yfl d hH';have hshift0:(({}:Hand).shift d)={}:=rfl;rw [hshift0] at hsh;generalize hHd:H'.shift d=Hd at hOK hsh;have hrbd:Hd.rb=[]:=by rw [←hHd];simp [Hand.shift,hrb']
       have hbx:∀d,(Hd.fr A).bx d=none:=fun d=>by simp [Hand.fr,hrbd,yck]
       have hsub:∀b,(Hd.fr A).F X.F0 b→X.F A b:=fun b hb=>by
        rcases hb with hb|⟨d,hb⟩|⟨m,l,hb⟩
        ·exact .inl hb
        ·rw [hbx] at hb;cases hb
        ·obtain ⟨n,_,h2⟩:=zzm hb;exact .inr (.inr ⟨n,l,h2⟩)
       have hf:Fits X A w Hd ((Hd.fr A).F X.F0):=by
        refine ⟨⟨fun _ _ _=>rfl,fun b hb=>.inl (hsub b hb)⟩,fun m hm b l hb=> ?_,fun d hd b hb=> ?_⟩
        ·rintro (hf|⟨d,hf⟩|⟨m',l',hf⟩)
         ·exact hi.good.f0m (hi.good.tgm m b l hb).1 hf
         ·rw [hbx] at hf;cases hf
         ·obtain ⟨n,h1,h2⟩:=zzm hf;have:=hi.good.tgi n m b l' l h2 hb;subst this;exact hOK.pl n hm (yav h1)
        ·rintro (hf|⟨d',hf⟩|⟨m',l',hf⟩)
         ·exact hi.good.f0m (hi.good.bxm d b hb).1 hf
         ·rw [hbx] at hf;cases hf
         ·obtain ⟨n,h1,h2⟩:=zzm hf;exact hi.good.bt d n b l' hb h2
       have hall:=yfk hi hOK hf hsh (.refl _) h hty;refine ⟨Hd.fr A,?_,hbx,fun n b l hb=> ?_,fun n n' b l l' h1 h2=> ?_⟩
       ·unfold yau;generalize zkg d 0 ks r=L at hall;cases hall with
        |nil=>trivial
        |cons h0 ht=>
         cases ht with
         |nil=>exact h0
         |cons h1 ht=>refine ⟨_,?_,.cons h0 (.cons h1 ht)⟩;simp
       ·obtain ⟨s,h1,h2⟩:=zzm hb;exact hi.good.tgm s b l h2
       ·obtain ⟨s,k1,k2⟩:=zzm h1;obtain ⟨s',k3,k4⟩:=zzm h2;have:=hi.good.tgi s s' b l l' k2 k4;subst this;exact qby hOK.src k1 k3
    ·cases hH
  ·cases h
 ·cases h
end
theorem qme {F:Nat→Prop} {A:Fr} {w:World}:∀{i:Nat} {ks:List Kd} {x:Tup ks} {vs:List Value},All2 (fun (p:Nat×PV) v=>RP F A w p.2 v) (zlu i ks x) vs→∀p∈zlu i ks x,∃q v,p.1=i+q∧vs[q]? =some v∧RP F A w p.2 v
 |i,[],x,vs,h,p,hp=>by cases hp
 |i,[k],x,vs,h,p,hp=>by
  simp only [zlu] at h hp;cases h with
  |cons h0 ht=>cases ht;rw [List.mem_singleton.1 hp];exact ⟨0,_,rfl,rfl,h0⟩
 |i,k::k'::ks,x,vs,h,p,hp=>by
  simp only [zlu] at h hp;cases h with
  |cons h0 ht=>
   rcases List.mem_cons.1 hp with rfl|hp
   ·exact ⟨0,_,rfl,rfl,h0⟩
   ·obtain ⟨q,v,h1,h2,h3⟩:=qme (ks:=k'::ks) ht p hp;exact ⟨q+1,v,by omega,by simpa using h2,h3⟩
theorem xcn {P:Program} {E:Env} {run:Runs E} {fuel f:Nat} {fn:Func} (hT:qel P E) (hR:qaq P E run) (hf:P.funcs[f]? =some fn) (hok:∀c,fn.body=some c→zla fn.ntmps c=true) {x:Tup (E.sig f).args} {r:Tup (E.sig f).res}
 (h:fnK E run fuel f fn x=some r):zdw P E f x r:=by
 intro w F0 G A vs hA;unfold fnK at h;split at h
 ·cases h
 ·rename_i c hc
  let X:Ctx:={P:=P,E:=E,W:=w,G:=G,F0:=F0,n:=(vs.toArray++Array.replicate (fn.ntmps-vs.toArray.size) undef).size}
  have hn:fn.ntmps≤X.n:=by show fn.ntmps≤(vs.toArray++Array.replicate (fn.ntmps-vs.toArray.size) undef).size;rw [Array.size_append,Array.size_replicate];omega
  have hinv:Inv X A {s:=zlu 0 (E.sig f).args x,b:=[]} (vs.toArray++Array.replicate (fn.ntmps-vs.toArray.size) undef) w:=by
   have hsl:=qme hA.rel;refine ⟨rfl,Kept.refl G w,hA.glob,fun i=> ?_,fun d tid cs hd=>by simp [getB] at hd,?_,fun p hp=> ?_⟩
   ·rcases qjs (zlu 0 (E.sig f).args x) i with h1|h1
    ·show RP _ _ _ (getS _ i) _;rw [h1];trivial
    ·obtain ⟨q,v,h2,h3,h4⟩:=hsl _ h1;have hqi:q=i:=by simp only at h2;omega
     subst hqi;have hlt:=(List.getElem?_eq_some_iff.1 h3).1;have:(vs.toArray++Array.replicate (fn.ntmps-vs.toArray.size) undef).getD q undef=v:=by rw [Array.getD_eq_getD_getElem?,Array.getElem?_append_left (by simpa using hlt)];simp [h3]
     rw [this];exact h4
   ·exact ⟨fun d b hb=>(by rw [hA.bx] at hb;cases hb),fun n b l hb=>⟨.inr (hA.tgm n b l hb).1,(hA.tgm n b l hb).2⟩,fun d d' b hb=>(by rw [hA.bx] at hb;cases hb),hA.tgi,fun d n b l hb=>(by rw [hA.bx] at hb;cases hb),hA.f0⟩
   ·obtain ⟨q,v,_,_,h4⟩:=hsl p hp;exact ⟨v,h4⟩
  obtain ⟨e,σ',h1,h2⟩:=(qlv (X:=X) (run:=run) (fuel:=fuel) (f:=f) hT hR c (zjd hn (hok c hc)) 0 _ _ r).1 h;refine calls_of_wp hf hc (h2 A _ w _ hinv rfl fun A' a' w' hi' hd'=> ?_);have fin:qip E σ' fn.results.toList fn.resultTypes.toList (E.sig f).res=some r→a'.defers=[]∧∃v,(results fn a'.tmps).run P w'= .ok v w'∧Returns G F0 w (E.sig f).res r (.returned v) w':=fun hres=>by obtain ⟨v,hv,hd⟩:=zyt (X:=X) hT.types hi' hres;exact ⟨hd',v,hv,v,rfl,hi'.kept,hd⟩
  cases e with
  |normal=>exact fin h1
  |ret=>exact fin h1
  |exit id=>cases h1
  |goto l=>cases h1
structure xis (P:Program) (E:Env):Prop where
 tab:qel P E
 fn:∀f fn,E.fn f=some fn→P.funcs[f]? =some fn∧(fn.name== "runtime.NumGoroutine")=false∧∀c,fn.body=some c→zla fn.ntmps c=true
 foreign:∀f g,E.foreign f=some g→zbc P f∧∀x r,g x=some r→zdw P E f x r
theorem zqd {P:Program} {E:Env} (h:xis P E):∀k,qaq P E (run E k)
 |0=>fun f x r hr=>by simp [run] at hr
 |k+1=>fun f x r hr=>by
  simp only [run] at hr;split at hr
  ·rename_i g hg;obtain ⟨h1,h2⟩:=h.foreign f g hg;exact ⟨h1,h2 x r hr⟩
  ·split at hr
   ·rename_i fn hfn;obtain ⟨h1,h2,h3⟩:=h.fn f fn hfn;refine ⟨⟨fn,h1,h2,?_⟩,xcn h.tab (zqd h k) h1 h3 hr⟩;unfold fnK at hr;split at hr
    ·cases hr
    ·rename_i c hc;rw [hc];rfl
   ·cases hr
end Go.Sv
