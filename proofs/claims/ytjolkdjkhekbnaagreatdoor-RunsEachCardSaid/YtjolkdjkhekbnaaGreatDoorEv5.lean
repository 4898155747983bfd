/- What a function tells in the end, however many rounds it takes: equations without rounds. -/
import Derived.Test.YtjolkdjkhekbnaaGreatDoorEv4
import Derived.LaidMore
import Derived.FnData
import Derived.Lib.SlTrimSet
namespace Go.Sv
open Go
def Mono {α:Type} (p:Nat→Option α):Prop:=∀k k',k≤k'→Le (p k) (p k')
open Classical in
noncomputable def lim {α:Type} (p:Nat→Option α):Option α:=if h:∃r k,p k=some r then some (Classical.choose h) else none
structure zbd {α:Type} (p:Nat→Option α) (a:Option α):Prop where
 mono:Mono p
 iff:∀r,a=some r↔∃k,p k=some r
theorem zbd.qob {α:Type} {p:Nat→Option α} (h:Mono p):zbd p (lim p):=by
 refine ⟨h,fun r=> ?_⟩
 unfold lim
 split
 ·rename_i hh
  obtain ⟨k,hk⟩:=Classical.choose_spec hh
  constructor
  ·intro e
   cases e
   exact ⟨k,hk⟩
  ·rintro ⟨k',hk'⟩
   have h1:=h k (max k k') (by omega) _ hk
   have h2:=h k' (max k k') (by omega) _ hk'
   rw [h1] at h2
   exact h2
 ·rename_i hh
  constructor
  ·intro e;cases e
  ·rintro ⟨k,hk⟩;exact absurd ⟨r,k,hk⟩ hh
theorem zbd.unique {α:Type} {p:Nat→Option α} {a b:Option α} (h:zbd p a) (h':zbd p b):a=b:=by
 cases ha:a with
 |none =>
  cases hb:b with
  |none=>rfl
  |some r=>have:=(h.iff r).2 ((h'.iff r).1 hb);rw [ha] at this;cases this
 |some r=>exact ((h'.iff r).2 ((h.iff r).1 ha)).symm
theorem zbd.eq {α:Type} {p:Nat→Option α} {a:Option α} (h:zbd p a):lim p=a:=(zbd.qob h.mono).unique h
theorem zbd.some {α:Type} (r:α):zbd (fun _=>Option.some r) (Option.some r):=⟨fun _ _ _=>Le.refl _,fun r'=>⟨fun h=>⟨0,h⟩,fun ⟨_,h⟩=>h⟩⟩
theorem zbd.none {α:Type}:zbd (fun _=>(Option.none:Option α)) Option.none:=⟨fun _ _ _=>Le.refl _,fun r'=>⟨fun h=>⟨0,h⟩,fun ⟨_,h⟩=>h⟩⟩
theorem zbd.of {α:Type} (p:Nat→Option α) (a:Option α) (h:∀k,p k=a):zbd p a:=by
 obtain rfl:p=fun _=>a:=funext h
 exact ⟨fun _ _ _=>Le.refl _,fun r'=>⟨fun h=>⟨0,h⟩,fun ⟨_,h⟩=>h⟩⟩
theorem zbd.cond {α:Type} {c:Bool} {p q:Nat→Option α} {a b:Option α} (h1:zbd p a) (h2:zbd q b):zbd (fun k=>bif c then p k else q k) (bif c then a else b):=by
 cases c<;>assumption
theorem zbd.bind {α β:Type} {p:Nat→Option α} {q:α→Nat→Option β} {a:Option α} {b:α→Option β} (h1:zbd p a) (h2:∀x,zbd (q x) (b x)):zbd (fun k=>(p k).bind fun x=>q x k) (a.bind b):=by
 refine ⟨fun k k' hk=>Le.bind (h1.mono k k' hk) fun x=>(h2 x).mono k k' hk,fun r=> ?_⟩
 simp only [Option.bind_eq_some_iff]
 constructor
 ·rintro ⟨x,hx,hr⟩
  obtain ⟨k,hk⟩:=(h1.iff x).1 hx
  obtain ⟨k',hk'⟩:=((h2 x).iff r).1 hr
  exact ⟨max k k',x,h1.mono k _ (by omega) _ hk,(h2 x).mono k' _ (by omega) _ hk'⟩
 ·rintro ⟨k,x,hx,hr⟩
  exact ⟨x,(h1.iff x).2 ⟨k,hx⟩,((h2 x).iff r).2 ⟨k,hr⟩⟩
theorem zbd.s {α:Type} {r:α}:zbd (fun _=>Option.some r) (Option.some r):=.some r
theorem zbd.n {α:Type}:zbd (fun _=>(Option.none:Option α)) Option.none:=.none
theorem zbd.c {α:Type} {c:Bool} {p q:Nat→Option α} {a b:Option α} (h1:zbd p a) (h2:zbd q b):zbd (fun k=>bif c then p k else q k) (bif c then a else b):=.cond h1 h2
theorem zbd.b {α β:Type} {p:Nat→Option α} {q:α→Nat→Option β} {a:Option α} {b:α→Option β} (h1:zbd p a) (h2:∀{x},zbd (q x) (b x)):zbd (fun k=>(p k).bind fun x=>q x k) (a.bind b):=h1.bind fun _=>h2
section
variable {E:Env}
theorem zbd.run (f:Nat) (x:Tup (E.sig f).args):zbd (fun k=>run E k f x) (lim fun k=>run E k f x):=.qob fun k k' h=>qqt k k' h f x
theorem zbd.lp (f b:Nat) (x:Tup (E.hs f b).ks):zbd (fun k=>lp E f b k k x) (lim fun k=>lp E f b k k x):=.qob fun k k' h r hr=>qvj hr h h
variable (E) in
noncomputable def dyn (v:FnV) (args:List SV) (t:Ty):Option t.den:=lim fun k=>zci E (Go.Sv.run E k) v args t
theorem zbd.dyn (v:FnV) (args:List SV) (t:Ty):zbd (fun k=>zci E (Go.Sv.run E k) v args t) (dyn E v args t):=.qob fun k k' h=>zoi (fun f x=>qqt k k' h f x) v args t
theorem yid {α:Type} {p:α→Nat→Prop} (hm:∀x k k',k≤k'→p x k→p x k'):∀{xs:List α},(∀x∈xs,∃k,p x k)→∃k,∀x∈xs,p x k
 |[],_=>⟨0,fun x hx=>by cases hx⟩
 |x::r,h=>by
  obtain ⟨k,hk⟩:=h x (List.mem_cons_self ..)
  obtain ⟨k',hk'⟩:=yid hm fun y hy=>h y (List.mem_cons_of_mem _ hy)
  refine ⟨max k k',fun y hy=> ?_⟩
  rcases List.mem_cons.1 hy with rfl|hy
  ·exact hm _ k _ (by omega) hk
  ·exact hm _ k' _ (by omega) (hk' y hy)
theorem qxw {α β:Type} {g:Nat→α→α→Option β} {G:α→α→Option β} (h:∀x y,zbd (fun k=>g k x y) (G x y)) {xs:List α} {d:β} (hs:∀x∈xs,∀y∈xs,G x y=Option.some ((G x y).getD d)) :
 ∃k,∀x∈xs,∀y∈xs,g k x y=G x y:=by
 refine yid (p:=fun x k=>∀y∈xs,g k x y=G x y) (fun x k k' hk hp y hy=> ?_) fun x hx=>yid (p:=fun y k=>g k x y=G x y) (fun y k k' hk hp=> ?_) fun y hy=> ?_
 ·by_cases hx:∃r,G x y=Option.some r
  ·obtain ⟨r,hr⟩:=hx
   rw [hr];exact (h x y).mono k k' hk r ((hp y hy).trans hr)
  ·cases hg:g k' x y with
   |none=>cases hG:G x y with
    |none=>rfl
    |some r=>exact absurd ⟨r,hG⟩ hx
   |some r=>exact absurd ⟨r,((h x y).iff r).2 ⟨k',hg⟩⟩ hx
 ·cases hG:G x y with
  |some r=>exact (h x y).mono k k' hk r (hp.trans hG)
  |none =>
   cases hg:g k' x y with
   |none=>rfl
   |some r=>have:=((h x y).iff r).2 ⟨k',hg⟩;rw [hG] at this;cases this
 ·obtain ⟨k,hk⟩:=((h x y).iff _).1 (hs x hx y hy)
  exact ⟨k,hk.trans (hs x hx y hy).symm⟩
theorem zbd.ziy {u:Ty} {g:Nat→u.den→u.den→Option Int} {G:u.den→u.den→Option Int} {xs:List u.den} (h:∀x y,zbd (fun k=>g k x y) (G x y)):zbd (fun k=>Go.Sv.ziy u (g k) xs) (Go.Sv.ziy u G xs):=by
 refine ⟨fun k k' hk=>zwi (fun x y=>(h x y).mono k k' hk) xs,fun r=>⟨fun hr=> ?_,fun ⟨k,hr⟩=> ?_⟩⟩
 ·obtain ⟨hs,_,_,_⟩:=zwh hr
  obtain ⟨k,hk⟩:=qxw h hs
  exact ⟨k,(zsq hk).trans hr⟩
 ·exact zwi (fun x y r' hr'=>((h x y).iff r').2 ⟨k,hr'⟩) xs r hr
theorem zbd.zbu {α:Type} {g:Nat→α→α→Option Bool} {G:α→α→Option Bool} {xs:List α} (h:∀x y,zbd (fun k=>g k x y) (G x y)):zbd (fun k=>Go.Sv.zbu (g k) xs) (Go.Sv.zbu G xs):=by
 refine ⟨fun k k' hk=>zpd (fun x y=>(h x y).mono k k' hk) xs,fun r=>⟨fun hr=> ?_,fun ⟨k,hr⟩=> ?_⟩⟩
 ·obtain ⟨hs,_⟩:=zpc hr
  obtain ⟨k,hk⟩:=qxw h hs
  exact ⟨k,(ztz hk).trans hr⟩
 ·exact zpd (fun x y r' hr'=>((h x y).iff r').2 ⟨k,hr'⟩) xs r hr
theorem zaj {f:Nat} {x:Tup (E.sig f).args} {p:Nat→Option (Tup (E.sig f).res)} {a:Option (Tup (E.sig f).res)} (h:zbd p a) (he:∀k,Go.Sv.run E (k+1) f x=p k):lim (fun k=>Go.Sv.run E k f x)=a:=by
 refine (zbd.run f x).unique ⟨(zbd.run f x).mono,fun r=> ?_⟩
 rw [h.iff]
 constructor
 ·rintro ⟨k,hk⟩;exact ⟨k+1,(he k).trans hk⟩
 ·rintro ⟨k,hk⟩;exact ⟨k,(he k).symm.trans (ykr hk (by omega))⟩
theorem zjr {f b:Nat} {x:Tup (E.hs f b).ks} {p:Nat→Option (Nat×Tup (E.os f b).ks)} {a:Option (Nat×Tup (E.os f b).ks)} (h:zbd p a) (he:∀k,Go.Sv.lp E f b k (k+1) x=p k):lim (fun k=>Go.Sv.lp E f b k k x)=a:=by
 refine (zbd.lp f b x).unique ⟨(zbd.lp f b x).mono,fun r=> ?_⟩
 rw [h.iff]
 constructor
 ·rintro ⟨k,hk⟩;exact ⟨k+1,qvj ((he k).trans hk) (by omega) (by omega)⟩
 ·rintro ⟨k,hk⟩;exact ⟨k,(he k).symm.trans (qvj hk (by omega) (by omega))⟩
theorem ztt {v:FnV} {args:List SV} {t:Ty} {f:Nat} {x:Tup (E.sig f).args} {g:Tup (E.sig f).res→Option t.den} (he:∀k,zci E (Go.Sv.run E k) v args t=(Go.Sv.run E k f x).bind g):dyn E v args t=(lim fun k=>Go.Sv.run E k f x).bind g:=by
 refine (zbd.dyn v args t).unique ?_
 have:=(zbd.run (E:=E) f x).bind (q:=fun r k=>g r) (b:=g) fun r=>⟨fun _ _ _=>Le.refl _,fun r'=>⟨fun h=>⟨0,h⟩,fun ⟨_,h⟩=>h⟩⟩
 rwa [show (fun k=>zci E (Go.Sv.run E k) v args t)=fun k=>(Go.Sv.run E k f x).bind g from funext he]
theorem yvj {f:Nat} {x:Tup (E.sig f).args} {r:Tup (E.sig f).res} (h:lim (fun k=>Go.Sv.run E k f x)=some r):∃k,Go.Sv.run E k f x=some r:=((zbd.run f x).iff r).1 h
end
abbrev Nd:=Int×ByteArray×Int
abbrev Tc:=List ByteArray×Int
abbrev Mv:=Int×Int
def ix {α:Type} [Inhabited α] (xs:List α) (i:Int):α:=xs.getD i.toNat default
def w64 (n:Int):Int:=IntKind.wrap .i64 n
theorem qhg {α:Type} [Inhabited α] {xs:List α} {i:Nat} (h:i<xs.length):ix xs (i:Int)=xs[i]:=by
 unfold ix
 rw [Int.toNat_natCast,List.getD_eq_getElem?_getD,List.getElem?_eq_getElem h];rfl
theorem znt {n:Int} (h0: -9223372036854775808≤n) (h1:n≤9223372036854775807):w64 n=n:=wrap_small h0 h1
theorem toList_inj {a b:ByteArray} (h:a.toList=b.toList):a=b:=by
 rw [ByteArray.toList_eq,ByteArray.toList_eq] at h
 obtain ⟨⟨x⟩⟩:=a
 obtain ⟨⟨y⟩⟩:=b
 simp only at h
 rw [h]
def bq (a b:ByteArray):Bool:=a.toList==b.toList
theorem yvr (a b:ByteArray):bq a b=decide (a=b):=by
 unfold bq
 by_cases h:a=b
 ·simp [h]
 ·simp only [h,decide_false,beq_eq_false_iff_ne,ne_eq]
  exact fun e=>h (toList_inj e)
end Go.Sv
namespace Go.Sv
open Go Go.ChangeShapes Go.WideShapes Go.Deep Go.RowKit
section
variable {P:Program} {w:World}
theorem qvp {E:Env} (hE:ytj P E) (hG:zcr E (fun _=>False) w) {k f:Nat} {x:Tup (E.sig f).args} {r:Tup (E.sig f).res} (hrun:run E k f x=some r) {vs:List Value}
 (hrel:All2 (fun (p:Nat×PV) v=>RP (fun _=>False) Fr.none w p.2 v) (zjm 0 (E.sig f).args x) vs) :
 Calls P f vs.toArray w fun e w'=>∃v,e= .returned v∧Below w.heap.size w w'∧∃(F:Nat→Prop) (T:Fr),RP F T w' (qnu 0 (E.sig f).res r) v:=by
 have hcon:=(zkt hE k f x r hrun).2
 have hF:∀b,¬Fr.none.F (fun _=>False) b:=fun b hb=>by
  rcases hb with hb|⟨d,hb⟩|⟨n,l,hb⟩
  ·exact hb
  ·cases hb
  ·cases hb
 have S:Step (fun _=>False) (Fr.none.F fun _=>False) w w:=⟨fun _ _ _=>rfl,fun b hb=>(hF b hb).elim⟩
 refine (hcon w (fun _=>False) (fun _=>False) Fr.none vs ⟨?_,fun _=>rfl,fun n b l h=>(by cases h),fun n n' b l l' h=>(by cases h),fun b h=>h.elim,hG.step S⟩).mono fun e w' hret=> ?_
 ·refine zem hrel fun p v _ hp=>RP.step S ?_ hp
  cases p.2 with
  |sv s=>exact fun c _=>(Ext.refl _ w).stays c
  |tup l=>exact fun s _ c _=>(Ext.refl _ w).stays c
  |_=>trivial
 ·obtain ⟨v,rfl,hk,hres⟩:=hret
  obtain ⟨T,hT⟩:=hres 0
  exact ⟨v,rfl,⟨hk.os,hk.tape,hk.output,hk.size,fun b hb=>hk.block b hb fun h=>h⟩,_,T,hT.rel⟩
theorem yas {g:Nat} {e:TypeId} {ws:List ByteArray} {n:Nat} (hn:ws.length=n) (h:∀(i:Nat) (x:ByteArray),ws[i]? =some x→w.cell? ⟨g,i,none⟩=some (.string x)):Cl (fun _=>False) w (.slice e .str) ws [.slice (some ⟨g,0,none⟩) n n]:=by
 rw [Cl]
 refine ⟨some ⟨g,0,none⟩,n,by rw [hn],by omega,.inr ⟨_,rfl,fun h=>h,fun i x hx=>⟨[.string x],by rw [Cl],fun j v hj=> ?_⟩⟩⟩
 have hj0:j=0:=by
  have:=(List.getElem?_eq_some_iff.1 hj).1
  simp at this;exact this
 subst hj0
 simp at hj
 subst hj
 have:=h i x hx
 have e:(⟨g,0,none⟩:Addr).add (i*Ty.str.sz+0)=⟨g,i,none⟩:=by simp [Addr.add,Ty.sz];exact fun h=>h.symm
 rw [e]
 exact this
theorem qmp {t e:TypeId} {n:Nat} {cs:Array Value} {ws:List ByteArray} {fuel:Nat} {ps:List MemPlace} {H:Type} {enc:TypeId×Value→H} {base:Nat} {spare:Nat→Bool} {held:Bool} {g:Nat} {name:String}
 (hg:P.globalNamed name=some g) (hv:w.var? P name=some cs) (ht:P.underlying t=some (.array n e)) (he:P.underlying e=some .string) (hc:P.cellsOf e=1)
 (hd:DataW.trod enc P w base spare held fuel t cs.toList=some (.agg (ws.map fun x=>.lit (.string x.data.toList)),ps)):∀(i:Nat) (x:ByteArray),ws[i]? =some x→w.cell? ⟨g,i,none⟩=some (.string x):=by
 intro i x hx
 obtain ⟨xs,m,_,ex,_,hl,hel⟩:=DataW.trod_array ht hd
 simp only [Prod.mk.injEq,DataW.agg.injEq] at ex
 have hlen:ws.length=n:=by
  have:=congrArg List.length ex.1
  simpa [hl] using this
 have hin:i<n:=by
  have:=(List.getElem?_eq_some_iff.1 hx).1;omega
 have hE:=hel i hin
 rw [hc,Nat.mul_one,List.getElem?_eq_getElem (by omega)] at hE
 obtain ⟨s,e1,e2,_⟩:=DataW.trod_string he hE
 have e4:(xs.map (·.1))[i]? =(ws.map fun x=>(DataW.lit (.string x.data.toList):DataW H))[i]? :=by rw [←ex.1]
 rw [List.getElem?_map,List.getElem?_map,List.getElem?_eq_getElem (by omega:i<xs.length),hx,e2] at e4
 simp only [Option.map_some,Option.some.injEq,DataW.lit.injEq,Lit.string.injEq] at e4
 have hs:s=x:=by
  obtain ⟨⟨a⟩⟩:=s
  obtain ⟨⟨b⟩⟩:=x
  simp only at e4
  rw [e4]
 rw [World.var?_cell hg hv i]
 have:cs.toList[i]? =some (.string s):=by
  have h0:((cs.toList.drop i).take 1)[0]? =some (.string s):=by rw [e1];rfl
  simpa using h0
 rw [←hs]
 simpa using this
def qdl (s c:ByteArray):Option ByteArray:=bif decide (s.size≤9223372036854775807)&&(decide (c.size<4294967281)&&c.data.toList.all fun b=>decide (b.toNat<128)) then some ⟨(Lib.trimS s.data.toList c.data.toList).toArray⟩ else none
theorem qmg {E:Env} {f:Nat} (hsig:E.sig f=⟨[.v .str [],.v .str []],[.v .str []],false⟩)
 (hc:∀(s c:ByteArray) (w:World),s.size≤9223372036854775807→c.size<4294967281→(c.data.toList.all fun b=>decide (b.toNat<128))=true→
  Calls P f #[.string s,.string c] w fun e w'=>e= .returned (.string ⟨(Lib.trimS s.data.toList c.data.toList).toArray⟩)∧Below w.heap.size w w'∧w.drawn≤w'.drawn) :
 ∀(x:Tup (E.sig f).args) (r:Tup (E.sig f).res) (y:ByteArray×ByteArray) (q:ByteArray),HEq x y→HEq r q→qdl y.1 y.2=some q→zbr P E f x r:=by
 intro x r y q hx hr hsp w F0 G A vs hA
 generalize hS:E.sig f=S at x r hA
 rw [hsig] at hS
 subst hS
 cases hx;cases hr
 unfold qdl at hsp
 cases hcnd:(decide (y.1.size≤9223372036854775807)&&(decide (y.2.size<4294967281)&&y.2.data.toList.all fun b=>decide (b.toNat<128))) with
 |false=>rw [hcnd] at hsp;cases hsp
 |true =>
  rw [hcnd] at hsp
  cases hsp
  simp only [Bool.and_eq_true,decide_eq_true_eq] at hcnd
  have hrel:=hA.rel
  have hargs:zjm 0 [Kd.v .str [],.v .str []] y=[(0,.sv (.one (.str y.1))),(1,.sv (.one (.str y.2)))]:=rfl
  rw [hargs] at hrel
  obtain ⟨v0,vs1,h0,hrel1,rfl⟩:∃v0 vs1,RP (A.F F0) A w (.sv (.one (.str y.1))) v0∧All2 (fun (p:Nat×PV) v=>RP (A.F F0) A w p.2 v) [(1,.sv (.one (.str y.2)))] vs1∧vs=v0::vs1:=by
   cases hrel with|cons h t=>exact ⟨_,_,h,t,rfl⟩
  obtain ⟨v1,h1,rfl⟩:∃v1,RP (A.F F0) A w (.sv (.one (.str y.2))) v1∧vs1=[v1]:=by
   cases hrel1 with|cons h t=>cases t;exact ⟨_,h,rfl⟩
  have e0:v0= .string y.1:=h0
  have e1:v1= .string y.2:=h1
  subst e0;subst e1
  refine (hc y.1 y.2 w hcnd.1 hcnd.2.1 hcnd.2.2).mono fun e w' ⟨he,hb,hdr⟩=>⟨_,he,⟨hb.os,hb.tape,hb.output,hb.size,fun k hk _=>hb.block k hk,hdr⟩,fun d=>⟨Fr.none,?_,fun _=>rfl,fun n b l h=>(by cases h),fun n n' b l l' h=>(by cases h)⟩⟩
  rfl
end
theorem yjs {P:Program} {W:World} {name:String} {g:Nat} {cs:Array Value} (hg:P.globalNamed name=some g) (h:W.var? P name=some cs):∃t z,W.heap[g]? =some (.cells cs t z):=by
 unfold World.var? at h
 rw [hg,Option.bind_some] at h
 cases ho:W.heap[g]? with
 |none=>rw [ho] at h;cases h
 |some o =>
  rw [ho] at h
  cases o<;>first|(cases h;exact ⟨_,_,rfl⟩)|cases h
end Go.Sv
