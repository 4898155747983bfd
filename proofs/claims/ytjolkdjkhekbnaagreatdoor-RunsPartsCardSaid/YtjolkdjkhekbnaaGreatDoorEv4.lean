/- Functions that the evaluator does not tell: slices.Clone. -/
import Derived.Test.YtjolkdjkhekbnaaGreatDoorEv3
import Derived.Deep.Slices
import Derived.OpenShut
import Derived.LaidMore
import Derived.Lib.SlTrimSet
set_option linter.unusedVariables false
set_option linter.unusedSimpArgs false
namespace Go.Sv
open Go
theorem qon {P:Program} {E:Env} {f:Nat} {fn:Func} {c:Code} (hT:qel P E) (hf:P.funcs[f]? =some fn) (hb:fn.body=some c) {x:Tup (E.sig f).args} {r:Tup (E.sig f).res}
 (h:∀(X:Ctx),X.P=P→X.E=E→fn.ntmps≤X.n→∀(A:Fr) (a:Act) (w:World) (Q:Exit→Act→World→Prop),Inv X A {s:=zlu 0 (E.sig f).args x,b:=[]} a.tmps w→a.defers=[]→
  (∀(σ':St) (A':Fr) (a':Act) (w':World),qip E σ' fn.results.toList fn.resultTypes.toList (E.sig f).res=some r→Inv X A' σ' a'.tmps w'→a'.defers=[]→Q .normal a' w'∧Q .ret a' w')→c.wp P Q a w):zdw P E f x r:=by
 intro w F0 G A vs hA
 let X:Ctx:={P:=P,E:=E,W:=w,G:=G,F0:=F0,n:=(vs.toArray++Array.replicate (fn.ntmps-vs.toArray.size) undef).size}
 have hn:fn.ntmps≤X.n:=by show fn.ntmps≤(vs.toArray++Array.replicate (fn.ntmps-vs.toArray.size) undef).size;rw [Array.size_append,Array.size_replicate];omega
 have hinv:Inv X A {s:=zlu 0 (E.sig f).args x,b:=[]} (vs.toArray++Array.replicate (fn.ntmps-vs.toArray.size) undef) w:=by
  have hsl:=qme hA.rel;refine ⟨rfl,Kept.refl G w,hA.glob,fun i=> ?_,fun d tid cs hd=>by simp [getB] at hd,?_,fun p hp=> ?_⟩
  ·rcases qjs (zlu 0 (E.sig f).args x) i with h1|h1
   ·show RP _ _ _ (getS _ i) _;rw [h1];trivial
   ·obtain ⟨q,v,h2,h3,h4⟩:=hsl _ h1;have hqi:q=i:=by simp only at h2;omega
    subst hqi;have hlt:=(List.getElem?_eq_some_iff.1 h3).1;have:(vs.toArray++Array.replicate (fn.ntmps-vs.toArray.size) undef).getD q undef=v:=by rw [Array.getD_eq_getD_getElem?,Array.getElem?_append_left (by simpa using hlt)];simp [h3]
    rw [this];exact h4
  ·exact ⟨fun d b hb=>(by rw [hA.bx] at hb;cases hb),fun n b l hb=>⟨.inr (hA.tgm n b l hb).1,(hA.tgm n b l hb).2⟩,fun d d' b hb=>(by rw [hA.bx] at hb;cases hb),hA.tgi,fun d n b l hb=>(by rw [hA.bx] at hb;cases hb),hA.f0⟩
  ·obtain ⟨q,v,_,_,h4⟩:=hsl p hp;exact ⟨v,h4⟩
 refine calls_of_wp hf hb (h X rfl rfl hn A _ w _ hinv rfl fun σ' A' a' w' hres hi' hd'=> ?_);obtain ⟨v,hv,hd⟩:=zyt (X:=X) hT.types hi' hres;have:a'.defers=[]∧∃v,(results fn a'.tmps).run P w'= .ok v w'∧Returns G F0 w (E.sig f).res r (.returned v) w':=⟨hd',v,hv,v,rfl,hi'.kept,hd⟩;exact ⟨this,this⟩
def xfo (T:TypeId) (p1:String):Array Oper:= #[{dst:=some 2,op:=.assign (.const (.slice none 0 0)),type:=T,pos:=p1,after:= #[],guard:=none}]
def xku (T B:TypeId) (p1 p2:String) (a2:Array Edge):Array Oper:=
 #[{dst:=some 3,op:=.move (.tmp 0),type:=T,pos:=p1,after:= #[],guard:=none},
  {dst:=some 4,op:=.binOp .eql T (.tmp 3) (.const (.slice none 0 0)) T,type:=B,pos:=p2,after:=a2,guard:=none}]
def qyl (T:TypeId) (p1 p2 p3 p4:String) (a3 a4:Array Edge):Array Oper:=
 #[{dst:=some 5,op:=.buildSlice T 0 #[],type:=T,pos:=p1,after:= #[],guard:=none},
  {dst:=some 6,op:=.move (.tmp 0),type:=T,pos:=p2,after:= #[],guard:=none},
  {dst:=some 7,op:=.call {callee:=.builtin .append,args:= #[.tmp 5,.tmp 6],argTypes:= #[T,T]},type:=T,pos:=p3,after:=a3,guard:=none},
  {dst:=some 2,op:=.assign (.tmp 7),type:=T,pos:=p4,after:=a4,guard:=none}]
def quc (T B:TypeId):Code:=
 (Code.region 0 (xfo T "slices.go:355") false).seq
  (((Code.region 1 (xku T B "slices.go:357" "slices.go:357" #[{on:=0,ground:=.data}]) false).seq
    (Code.cond (.tmp 4) ((Code.region 2 (xfo T "slices.go:358") false).seq Code.ret) Code.skip)).seq
    ((Code.region 3 (qyl T "slices.go:362" "slices.go:362" "slices.go:362" "slices.go:362" #[{on:=0,ground:=.data},{on:=1,ground:=.data}]
      #[{on:=2,ground:=.data},{on:=2,ground:=.chain},{on:=0,ground:=.phase},{on:=1,ground:=.phase},{on:=2,ground:=.phase}]) false).seq Code.ret))
theorem qhr {P:Program} {ops:Array Oper} {Q:Exit→Act→World→Prop} {i:Nat} {o:Oper} {rest:List Nat} {a:Act} {w:World} (ho:ops[i]? =some o) (hg:o.guard=none) (h:o.wp P a w (wpOps P ops Q rest) Q):wpOps P ops Q (i::rest) a w:=by rw [wpOps_cons];unfold wpOp;simp only [ho,Region.wanted,hg,if_true];exact .inl h
theorem xda {X:Ctx} (hT:qel X.P X.E) {T B e:TypeId} {i ie:TI} {u:Ty} (hi:X.E.ti T=some i) (hid:i.d= .slice e) (hty:i.ty=some (.slice e u)) (hie:X.E.ti e=some ie) (hs0:0<ie.size) (hsz:ie.size=u.sz) (hety:ie.ty=some u)
 (hn:8≤X.n) {xs:List u.den} (hroom:zai xs.length ie.bytes=true) (hlit:X.E.lits "slices.go:362" =false) {A:Fr} {a:Act} {w:World} {Q:Exit→Act→World→Prop} (hinv:Inv X A {s:=[(0,.sv (.one (.slice e u xs .no)))],b:=[]} a.tmps w) (hdef:a.defers=[])
 (hq:∀(σ':St) (A':Fr) (a':Act) (w':World) (g:Tag),σ'.get 2= .sv (.one (.slice e u xs g))→(g= .nil∨g= .own (zcc 7 0 0))→Inv X A' σ' a'.tmps w'→a'.defers=[]→Q .normal a' w'∧Q .ret a' w'):(quc T B).wp X.P Q a w:=by
 have hR:qaq X.P X.E (fun _ _=>none):=fun f x r h=>by cases h
 have ht:=hT.types.ti T i hi;have tynil:X.E.typed T (.sv (.one .nilS))= .sv (.one (.slice e u [] .nil)):=by simp [Env.typed,hi,hid,hty]
 unfold quc;refine wp_seq (wp_region ?_);refine qhr (o:={dst:=some 2,op:=.assign (.const (.slice none 0 0)),type:=T,pos:= "slices.go:355",after:= #[],guard:=none}) rfl rfl ?_;refine zwm (σ:={s:=[(0,.sv (.one (.slice e u xs .no)))],b:=[]}) (.inr rfl) (fun d hd=>by cases hd;exact Nat.lt_of_lt_of_le (by decide) hn) A a w hinv hdef _ _ fun A1 a1 w1 h1 d1=> ?_
 show ((_:Code).seq _).wp X.P Q a1 w1;refine wp_seq (wp_seq (wp_region ?_));refine qhr (o:={dst:=some 3,op:=.move (.tmp 0),type:=T,pos:= "slices.go:357",after:= #[],guard:=none}) rfl rfl ?_;refine zwm (.inl rfl) (fun d hd=>by cases hd;exact Nat.lt_of_lt_of_le (by decide) hn) A1 a1 w1 h1 d1 _ _ fun A2 a2 w2 h2 d2=> ?_
 refine qhr (o:={dst:=some 4,op:=.binOp .eql T (.tmp 3) (.const (.slice none 0 0)) T,type:=B,pos:= "slices.go:357",after:= #[{on:=0,ground:=.data}],guard:=none}) rfl rfl ?_;obtain ⟨d,hu,hk⟩:=ht.und;rw [hid] at hk;cases d<;>try exact hk.elim
 have hk':e=_:=hk;subst hk';have hv:RP (X.F A2) A2 w2 (.sv (.one (.slice e u xs .no))) (a2.eval (.tmp 3)):=h2.slot 3;have hv':Cl (X.F A2) w2 (.slice e u) xs [a2.eval (.tmp 3)]:=hv;rw [Cl] at hv';obtain ⟨ad,cap,he,_,hrow⟩:=hv';simp only [List.cons.injEq,and_true] at he;have hrun:(execOp a2.eval {dst:=some 4,op:=.binOp .eql T (.tmp 3) (.const (.slice none 0 0)) T,type:=B,pos:= "slices.go:357",after:= #[{on:=0,ground:=.data}],guard:=none}).run X.P w2= .ok (.value (.bool ad.isNone)) w2:=by have hn0:a2.eval (.const (.slice none 0 0))= .slice none 0 0:=rfl;simp [execOp,he,hn0,eqGuard,binOp,run_equal_slice_nil w2 T e ad xs.length cap hu]
 refine znr hrun ?_;have h3:=h2.put (dst:=some 4) (p:=.sv (.one (.bool ad.isNone))) (v:=.bool ad.isNone) (fun d hd=>by cases hd;exact Nat.lt_of_lt_of_le (by decide) hn) fun _=>rfl
 have d3:(a2.put (some 4) (.bool ad.isNone)).defers=[]:=by rw [put_defers];exact d2
 generalize a2.put (some 4) (.bool ad.isNone)=a3 at h3 d3;show (Code.cond _ _ _).wp X.P _ a3 w2;have hc:a3.eval (.tmp 4)= .bool ad.isNone:=h3.slot 4;cases had:ad with
 |none=>
  have hx:xs=[]:=by
   rcases hrow with h|⟨b,h,_⟩
   ·exact h
   ·rw [had] at h;cases h
  subst hx;rw [had] at hc;refine wp_cond_true hc (wp_seq (wp_region ?_));refine qhr (o:={dst:=some 2,op:=.assign (.const (.slice none 0 0)),type:=T,pos:= "slices.go:358",after:= #[],guard:=none}) rfl rfl ?_;refine zwm (.inr rfl) (fun d hd=>by cases hd;exact Nat.lt_of_lt_of_le (by decide) hn) A2 a3 w2 h3 d3 _ _ fun A4 a4 w4 h4 d4=> ?_
  refine wp_ret ((hq _ A4 a4 w4 .nil ?_ (.inl rfl) h4 d4).2);rw [St.get_put,if_pos rfl];exact tynil
 |some b=>
  rw [had] at hc;refine wp_cond_false hc (wp_skip ?_);show ((Code.region _ _ _).seq _).wp X.P Q a3 w2;have hd:∀o∈(qyl T "slices.go:362" "slices.go:362" "slices.go:362" "slices.go:362" #[{on:=0,ground:=.data},{on:=1,ground:=.data}] #[{on:=2,ground:=.data},{on:=2,ground:=.chain},{on:=0,ground:=.phase},{on:=1,ground:=.phase},{on:=2,ground:=.phase}]).toList,∀d,o.dst=some d→d<X.n:=fun o ho d hd=>by simp only [qyl,List.mem_cons,List.not_mem_nil,or_false] at ho;rcases ho with rfl|rfl|rfl|rfl<;>cases hd<;>exact Nat.lt_of_lt_of_le (by decide) hn
  obtain ⟨σ',he2,hg⟩:∃σ':St,opsK X.E (fun _ _=>none) (qyl T "slices.go:362" "slices.go:362" "slices.go:362" "slices.go:362" #[{on:=0,ground:=.data},{on:=1,ground:=.data}] #[{on:=2,ground:=.data},{on:=2,ground:=.chain},{on:=0,ground:=.phase},{on:=1,ground:=.phase},{on:=2,ground:=.phase}]).toList (qyl T "slices.go:362" "slices.go:362" "slices.go:362" "slices.go:362" #[{on:=0,ground:=.data},{on:=1,ground:=.data}] #[{on:=2,ground:=.data},{on:=2,ground:=.chain},{on:=0,ground:=.phase},{on:=1,ground:=.phase},{on:=2,ground:=.phase}]).toList
   (((({s:=[(0,.sv (.one (.slice e u xs .no)))],b:=[]}:St).put (some 2) (X.E.typed T (.sv (.one .nilS)))).put (some 3) (X.E.typed T (.sv (.one (.slice e u xs .no))))).put (some 4) (.sv (.one (.bool ad.isNone)))) some=some σ'∧σ'.get 2= .sv (.one (.slice e u xs (.own (zcc 7 0 0)))):=by
   simp [opsK,opGK,opK,qyl,hlit,hi,hid,hty,hie,hs0,hsz,hety,zvy,zod,St.release,St.kill,St.put,St.ev,St.get,getS,St.map,PV.map,SV.map,PC.zcs,Env.typed,zwh,zcc,mem,Bool.cond_eq_ite,Nat.beq_eq,Ty.zpw u,hroom]
  obtain ⟨σ2,hK,hops⟩:=qsj (X:=X) hT hR hd _ 0 _ rfl he2;cases hK;refine wp_seq (wp_region ?_);have:=hops A2 a3 w2 h3 d3 (Exit.then (Code.ret.wp X.P Q) Q) fun A4 a4 w4 h4 d4=>wp_ret ((hq _ A4 a4 w4 _ hg (.inr rfl) h4 d4).2)
  rw [List.range_eq_range'];exact this
theorem zwg {P:Program} {E:Env} {f:Nat} {fn:Func} {T B e:TypeId} {i ie:TI} {u:Ty} (hT:qel P E) (hf:P.funcs[f]? =some fn) (hb:fn.body=some (quc T B)) (hres:fn.results= #[.tmp 2]) (hrt:fn.resultTypes= #[T]) (hnt:fn.ntmps=8)
 (hsig:E.sig f=⟨[.v (.slice e u) []],[.v (.slice e u) [0]],false⟩) (hi:E.ti T=some i) (hid:i.d= .slice e) (hty:i.ty=some (.slice e u)) (hie:E.ti e=some ie) (hs0:0<ie.size) (hsz:ie.size=u.sz) (hety:ie.ty=some u)
 {x:Tup (E.sig f).args} {r:Tup (E.sig f).res} {xs:List u.den} (hx:HEq x xs) (hr:HEq r xs) (hroom:zai xs.length ie.bytes=true) (hlit:E.lits "slices.go:362" =false):zdw P E f x r:=by
 refine qon hT hf hb fun X hP hE hn A a w Q hinv hdef hq=> ?_
 subst hP;subst hE;generalize X.E.sig f=sg at hsig x r hx hr hinv hq;subst hsig;cases hx;cases hr;refine xda hT hi hid hty hie hs0 hsz hety (by omega) hroom hlit (by simpa [zlu,Kd.unpack,Ty.zke,zti,Ty.toPC,mem] using hinv) hdef fun σ' A' a' w' g hg1 hg2 hi' hd'=> ?_
 refine hq σ' A' a' w' ?_ hi' hd';rw [hres,hrt];rcases hg2 with rfl|rfl
 ·simp [qip,qrs,yua,hg1,zfv,Env.typed,handed,zef,zli,Kd.hand,zbx,SV.cells,mem,Hand.ok,Hand.srcs,nodup,zdl,Kd.pack,Ty.zke,Ty.ofPC,rowOf,Nat.beq_refl]
 ·simp [qip,qrs,yua,hg1,zfv,Env.typed,handed,zef,zli,Kd.hand,zbx,SV.cells,mem,Hand.ok,Hand.srcs,nodup,zdl,Kd.pack,Ty.zke,Ty.ofPC,rowOf,Nat.beq_refl]
inductive Tree (α:Type) where
 |leaf
 |node (k:Nat) (v:α) (l r:Tree α)
def Tree.find {α:Type}:Tree α→Nat→Option α
 | .leaf,_=>none
 | .node k v l r,n=>bif Nat.beq n k then some v else bif Nat.blt n k then l.find n else r.find n
def Tree.list {α:Type}:Tree α→List (Nat×α)
 | .leaf=>[]
 | .node k v l r=>(k,v)::(l.list++r.list)
theorem Tree.qju {α:Type}:∀{t:Tree α} {n:Nat} {v:α},t.find n=some v→(n,v)∈t.list
 | .node k w l r,n,v,h=>by
   simp only [Tree.find] at h;cases hb:Nat.beq n k with
   |true=>simp only [hb,cond_true,Option.some.injEq] at h;rw [Nat.eq_of_beq_eq_true hb,h];exact List.mem_cons_self ..
   |false=>
    simp only [hb,cond_false] at h;cases hl:Nat.blt n k with
    |true=>simp only [hl,cond_true] at h;exact List.mem_cons_of_mem _ (List.mem_append_left _ (Tree.qju h))
    |false=>simp only [hl,cond_false] at h;exact List.mem_cons_of_mem _ (List.mem_append_right _ (Tree.qju h))
def xfw:Value→Value→Bool
 | .bool a,.bool b=>a==b
 | .int k a,.int k' b=>decide (k=k')&&a==b
 | .string a,.string b=>a.data.toList==b.data.toList
 | .slice none 0 0,.slice none 0 0=>true
 | .nilFunc,.nilFunc=>true
 |_,_=>false
theorem yzj {a b:Value} (h:xfw a b=true):a=b:=by
 unfold xfw at h;split at h
 ·rw [eq_of_beq h]
 ·simp only [Bool.and_eq_true,decide_eq_true_eq,beq_iff_eq] at h;rw [h.1,h.2]
 ·have h1:=eq_of_beq h;rename_i a b;obtain ⟨⟨x⟩⟩:=a;obtain ⟨⟨y⟩⟩:=b;simp only at h1;rw [h1]
 ·rfl
 ·rfl
 ·cases h
def qyz:List Value→List Value→Bool
 |[],[]=>true
 |a::l,b::m=>xfw a b&&qyz l m
 |_,_=>false
theorem qxa:∀{l m:List Value},qyz l m=true→l=m
 |[],[],_=>rfl
 |a::l,b::m,h=>by simp only [qyz,Bool.and_eq_true] at h;rw [yzj h.1,qxa h.2]
def ywy:D→TypeDesc→Bool
 | .bool,.bool=>true
 | .int k,.int k'=>decide (k=k')
 | .str,.string=>true
 | .slice e,.slice e'=>Nat.beq e e'
 | .struct fs,.struct fields=>decide (fields.toList.map (fun f=>(f.offset,f.type))=fs)
 | .array n e,.array n' e'=>Nat.beq n n'&&Nat.beq e e'
 | .other,.func _ _ _=>true
 | .map k e,.map k' e'=>Nat.beq k k'&&Nat.beq e e'
 |_,_=>false
theorem ywx {d:D} {t:TypeDesc} (h:ywy d t=true):DOK d t:=by
 unfold ywy at h;split at h<;>try (cases h;done)
 ·trivial
 ·show _=_;exact of_decide_eq_true h
 ·trivial
 ·exact Nat.eq_of_beq_eq_true h
 ·show _=_;exact of_decide_eq_true h
 ·simp only [Bool.and_eq_true] at h;exact ⟨Nat.eq_of_beq_eq_true h.1,Nat.eq_of_beq_eq_true h.2⟩
 ·trivial
 ·simp only [Bool.and_eq_true] at h;exact ⟨Nat.eq_of_beq_eq_true h.1,Nat.eq_of_beq_eq_true h.2⟩
def ywg (P:Program) (t:TypeId) (i:TI):Bool:=
 match P.info? t with
 |none=>false
 |some ti=>Nat.beq ti.size i.size&&(Nat.beq ti.bytes i.bytes&&(match ti.zero with
  |none=>false
  |some z=>Nat.beq z.cells.size i.size&&((i.agg||z.oneCell')&&(match i.ty with|none=>true|some u=>qyz z.cells.toList (zjz u)))))
def xjb (P:Program) (t:TypeId) (i:TI):Bool:=
 match P.underlying t with
 |none=>false
 |some d=>ywy i.d d
def qov (P:Program):List (Nat×TypeId)→Bool
 |[]=>true
 |q::r=>(match P.info? q.2 with|none=>false|some tf=> !(Nat.beq tf.size 0))&&qov P r
def ycm (n:Nat) (u:Ty):Nat→List (Nat×TypeId)→Bool
 |_,[]=>true
 |f,q::r=>(match Ty.offs n f u with|some (o,_)=>Nat.beq o q.1|none=>false)&&ycm n u (f+1) r
def qzp (P:Program) (i:TI):Bool:=
 match i.d with
 | .struct fs=>qov P fs&&(match i.ty with|none=>true|some u=>ycm fs.length u 0 fs)
 |_=>true
def ywt (P:Program) (i:TI):Bool:=
 match i.d,i.ty with
 | .slice e,some (.slice e' u)=>Nat.beq e e'&&(match P.info? e with|none=>false|some te=>Nat.beq te.size u.sz)
 | .array _ e,some (.slice _ _)=>false
 | .array _ e,_=>(match P.info? e with|none=>false|some _=>true)
 |_,some (.slice _ _)=>false
 |_,_=>true
def rowIs (P:Program) (t:TypeId) (i:TI):Bool:=
 ywg P t i&&(xjb P t i&&(qzp P i&&(ywt P i&&((match i.ty with|none=>true|some u=>Nat.beq u.sz i.size)&&(Nat.beq i.size 0|| !(Nat.beq i.bytes 0))))))
theorem qqx {P:Program}:∀{fs:List (Nat×TypeId)},qov P fs=true→∀q∈fs,∃tf,P.info? q.2=some tf∧tf.size≠0
 |q::r,h,p,hp=>by
  simp only [qov,Bool.and_eq_true] at h;rcases List.mem_cons.1 hp with rfl|hp
  ·have h1:=h.1;cases hi:P.info? p.2 with
   |none=>rw [hi] at h1;cases h1
   |some tf=>rw [hi] at h1;refine ⟨tf,rfl,fun e=> ?_⟩;simp [e] at h1
  ·exact qqx h.2 p hp
theorem qya {n:Nat} {u:Ty}:∀{fs:List (Nat×TypeId)} {g:Nat},ycm n u g fs=true→∀f off ft,fs[f]? =some (off,ft)→∃v,Ty.offs n (g+f) u=some (off,v)
 |q::r,g,h,f,off,ft,hf=>by
  simp only [ycm,Bool.and_eq_true] at h;cases f with
  |zero=>
   simp only [List.getElem?_cons_zero,Option.some.injEq] at hf;subst hf;have h1:=h.1;rw [Nat.add_zero];cases ho:Ty.offs n g u with
   |none=>rw [ho] at h1;cases h1
   |some p=>obtain ⟨o,v⟩:=p;rw [ho] at h1;have h2:Nat.beq o off=true:=h1;exact ⟨v,by rw [Nat.eq_of_beq_eq_true h2]⟩
  |succ f=>rw [show g+(f+1)=g+1+f by omega];exact qya h.2 f off ft (by simpa using hf)
theorem xao {P:Program} {t:TypeId} {i:TI} (h:rowIs P t i=true)
 (heq:i.eq=true→∀u,i.ty=some u→u.flat=true∧∀(w:World) (op:BinOp) (x y:Operand) (a b:u.den),
  (eqGuard op t x y (.agg (zbg u a).toArray) (.agg (zbg u b).toArray)).run P w= .ok () w∧(Op.equalIn 10000 t (.agg (zbg u a).toArray) (.agg (zbg u b).toArray)).run P w= .ok (eqD u a b) w):TIOK P t i:=by
 unfold rowIs at h;simp only [Bool.and_eq_true,Bool.or_eq_true,Bool.not_eq_true'] at h;obtain ⟨h1,h2,h3,h4,h5,h6⟩:=h;refine ⟨?_,?_,fun u hu=> ?_,fun hp=> ?_,fun fs hfs q hq=> ?_,fun fs u hfs hu f off ft hf=> ?_,heq,fun ha ti' z' hti' hz'=> ?_⟩
 ·unfold ywg at h1;split at h1
  ·cases h1
  ·rename_i ti hti;simp only [Bool.and_eq_true] at h1;obtain ⟨k1,k2,k3⟩:=h1;split at k3
   ·cases k3
   ·rename_i z hz;simp only [Bool.and_eq_true] at k3;refine ⟨ti,hti,Nat.eq_of_beq_eq_true k1,Nat.eq_of_beq_eq_true k2,z,hz,Nat.eq_of_beq_eq_true k3.1,fun u hu=> ?_⟩;have k4:=k3.2.2;rw [hu] at k4;exact qxa k4
 ·unfold xjb at h2;split at h2
  ·cases h2
  ·rename_i d hd;exact ⟨d,hd,ywx h2⟩
 ·rw [hu] at h5;exact Nat.eq_of_beq_eq_true h5
 ·rcases h6 with h6|h6
  ·have:=Nat.eq_of_beq_eq_true h6;omega
  ·cases hb:i.bytes with
   |zero=>rw [hb] at h6;simp at h6
   |succ n=>omega
 ·unfold qzp at h3;rw [hfs] at h3;simp only [Bool.and_eq_true] at h3;exact qqx h3.1 q hq
 ·unfold qzp at h3;rw [hfs] at h3;simp only [Bool.and_eq_true,hu] at h3;have:=qya h3.2 f off ft hf
  rwa [Nat.zero_add] at this
 ·unfold ywg at h1;rw [hti'] at h1;simp only [Bool.and_eq_true,hz',ha,Bool.false_or] at h1;exact h1.2.2.2.1
theorem yws {P:Program} {E:Env} (h:∀t i,E.ti t=some i→rowIs P t i=true):quu P E:=by
 have key:∀t i e u,E.ti t=some i→i.ty=some (.slice e u)→i.d= .slice e∧∃te,P.info? e=some te∧te.size=u.sz:=fun t i e u hi hty=>by
  have h1:=h t i hi;unfold rowIs at h1;simp only [Bool.and_eq_true] at h1;have h2:=h1.2.2.2.1;unfold ywt at h2;rw [hty] at h2;cases hd:i.d with
  |slice e'=>
   rw [hd] at h2;simp only [Bool.and_eq_true] at h2;have he:=Nat.eq_of_beq_eq_true h2.1;subst he;refine ⟨rfl,?_⟩;have h3:=h2.2;cases hi:P.info? e' with
   |none=>rw [hi] at h3;cases h3
   |some te=>rw [hi] at h3;exact ⟨te,rfl,Nat.eq_of_beq_eq_true h3⟩
  |_=>rw [hd] at h2;cases h2
 refine ⟨fun t i e u hi hty=> ?_,fun t i e u hi hd hty=>(key t i e u hi hty).2,fun t i n e hi hd=> ?_⟩
 ·obtain ⟨h1,h2⟩:=key t i e u hi hty;exact ⟨e,h1,h2⟩
 ·have h1:=h t i hi;unfold rowIs at h1;simp only [Bool.and_eq_true] at h1;have h2:=h1.2.2.2.1;unfold ywt at h2;rw [hd] at h2;have:∀o:Option TypeInfo,(match o with|none=>false|some _=>true)=true→∃ti,o=some ti:=fun o ho=>by
   cases o with
   |none=>cases ho
   |some ti=>exact ⟨ti,rfl⟩
  cases hty:i.ty with
  |none=>rw [hty] at h2;exact this _ h2
  |some u=>rw [hty] at h2;cases u<;>first|exact this _ h2|cases h2
def qxp (P:Program) (t:TypeId):Ty→Bool
 | .bool=>(match P.underlying t with|some .bool=>true|_=>false)
 | .int k=>(match P.underlying t with|some (.int _)=>true|_=>false)
 | .str=>(match P.underlying t with|some .string=>true|_=>false)
 |_=>false
def ztm (P:Program):List Field→Ty→Nat→Bool
 |[f],u,off=>(f.name != "_")&&(Nat.beq f.offset off&&(qxp P f.type u))
 |f::g::r,.pair a b,off=>(f.name != "_")&&(Nat.beq f.offset off&&(qxp P f.type a&&ztm P (g::r) b (off+1)))
 |_,_,_=>false
theorem qdr {P:Program} {t:TypeId} {u:Ty} (h:qxp P t u=true) {xs:Array Value} {off:Nat} {v:Value} (hx:xs[off]? =some v) (w:World):(part t xs off).run P w= .ok v w:=by
 have hag:(isAgg t).run P w= .ok false w:=by
  unfold isAgg underlying;simp only [Sem.run_bind,run_program,Result.andThen_ok];unfold qxp at h;split at h<;>try (cases h;done)
  all_goals
   split at h
   ·rename_i hu;simp [hu]
   ·cases h
 unfold part;simp only [Sem.run_bind,hag,Result.andThen_ok,Bool.false_eq_true,if_false,hx];rfl
theorem yex {P:Program} {t:TypeId} {u:Ty} (h:qxp P t u=true) (d:Nat) (a b:u.den) (w:World):
 ∃x y,zbg u a=[x]∧zbg u b=[y]∧(Op.equalIn (d+1) t x y).run P w= .ok (eqD u a b) w:=by
 unfold qxp at h;split at h<;>try (cases h;done)
 ·split at h
  ·rename_i hu;exact ⟨_,_,rfl,rfl,run_equalIn_bool w d t a b hu⟩
  ·cases h
 ·split at h
  ·rename_i hu;exact ⟨_,_,rfl,rfl,run_equalIn_int w d t _ _ a b hu⟩
  ·cases h
 ·split at h
  ·rename_i hu;exact ⟨_,_,rfl,rfl,run_equalIn_string w d t a b hu⟩
  ·cases h
theorem qnl {P:Program} (d:Nat) (w:World) (xs ys:Array Value):∀(fs:List Field) (u:Ty) (off:Nat) (a b:u.den),ztm P fs u off=true→(∀j v,(zbg u a)[j]? =some v→xs[off+j]? =some v)→(∀j v,(zbg u b)[j]? =some v→ys[off+j]? =some v)→
 (Op.eqFields (d+1) xs ys fs).run P w= .ok (eqD u a b) w
 |[],u,off,a,b,h,_,_=>by simp [ztm] at h
 |[f],u,off,a,b,h,hx,hy=>by simp only [ztm,Bool.and_eq_true,bne_iff_ne] at h;obtain ⟨h1,h2,h3⟩:=h;have h2':=Nat.eq_of_beq_eq_true h2;obtain ⟨x,y,e1,e2,e3⟩:=yex h3 d a b w;have p1:=qdr h3 (hx 0 x (by rw [e1];rfl)) w;have p2:=qdr h3 (hy 0 y (by rw [e2];rfl)) w;rw [Nat.add_zero] at p1 p2;rw [←h2'] at p1 p2;simp only [Op.eqFields,ne_eq,h1,not_false_eq_true,if_true,Sem.run_bind,p1,p2,e3,Result.andThen_ok];cases eqD u a b<;>rfl
 |f::g::r,.pair p q,off,a,b,h,hx,hy=>by
  simp only [ztm,Bool.and_eq_true,bne_iff_ne] at h;obtain ⟨h1,h2,h3,h4⟩:=h;have h2':=Nat.eq_of_beq_eq_true h2;obtain ⟨x,y,e1,e2,e3⟩:=yex h3 d a.1 b.1 w;have p1:=qdr h3 (hx 0 x (by simp [zbg,e1])) w;have p2:=qdr h3 (hy 0 y (by simp [zbg,e2])) w;rw [Nat.add_zero] at p1 p2;rw [←h2'] at p1 p2;have ih:=qnl d w xs ys (g::r) q (off+1) a.2 b.2 h4 (fun j v hj=>by
   rw [show off+1+j=off+(j+1) by omega];exact hx (j+1) v (by simpa [zbg,e1] using hj)) (fun j v hj=>by
   rw [show off+1+j=off+(j+1) by omega];exact hy (j+1) v (by simpa [zbg,e2] using hj))
  rw [Op.eqFields];simp only [ne_eq,h1,not_false_eq_true,if_true,Sem.run_bind,p1,p2,e3,Result.andThen_ok];show _=Result.ok (eqD p a.1 b.1&&eqD q a.2 b.2) w;cases eqD p a.1 b.1 with
  |true=>simp only [Bool.not_true,Bool.false_eq_true,if_false,Bool.true_and];exact ih
  |false=>rfl
 |f::g::r,.bool,off,a,b,h,_,_|f::g::r,.int _,off,a,b,h,_,_|f::g::r,.str,off,a,b,h,_,_|f::g::r,.fn,off,a,b,h,_,_|f::g::r,.slice _ _,off,a,b,h,_,_=>by simp [ztm] at h
theorem xfj {P:Program} {t:TypeId} {u:Ty} (hfl:u.flat=true) (hty:P.underlying t=some (.struct (P.fieldsOf t))) (hp:P.stoodInHeld t=false) (hg:P.eqGuardType P.depth t=false) (hfit:ztm P (P.fieldsOf t).toList u 0=true):
 u.flat=true∧∀(w:World) (op:BinOp) (x y:Operand) (a b:u.den),
  (eqGuard op t x y (.agg (zbg u a).toArray) (.agg (zbg u b).toArray)).run P w= .ok () w∧(Op.equalIn 10000 t (.agg (zbg u a).toArray) (.agg (zbg u b).toArray)).run P w= .ok (eqD u a b) w:=
 ⟨hfl,fun w op x y a b=>⟨run_eqGuard_agg w op t x y _ _ hg,by rw [run_equalIn_struct w 9999 t _ _ hty hp];exact qnl 9998 w _ _ _ u 0 a b hfit (fun j v hj=>by simpa using hj) (fun j v hj=>by simpa using hj)⟩⟩
open Go Go.ChangeShapes Go.WideShapes Go.Deep Go.RowKit
def parts (rec:TypeId→Ty→Bool) (P:Program):List (Nat×TypeId)→Nat→Ty→Bool
 |[q],off,u=>Nat.beq q.1 off&&(Nat.beq (P.cellsOf q.2) u.sz&&rec q.2 u)
 |q::q'::r,off,.pair a b=>Nat.beq q.1 off&&(Nat.beq (P.cellsOf q.2) a.sz&&(rec q.2 a&&parts rec P (q'::r) (off+a.sz) b))
 |_,_,_=>false
def tyIs (P:Program):Nat→TypeId→Ty→Bool
 |0,_,_=>false
 |d+1,t,u=>
  match P.underlying t with
  |some .bool=>(match u with| .bool=>true|_=>false)
  |some (.int k')=>(match u with| .int k=>decide (k=k')|_=>false)
  |some .string=>(match u with| .str=>true|_=>false)
  |some (.slice e')=>(match u with| .slice e u=>Nat.beq e e'&&(Nat.beq (P.cellsOf e) u.sz&&(Nat.ble 1 (P.bytesOf e)&&tyIs P d e u))|_=>false)
  |some (.struct fs)=>u.zke&&Nat.beq (P.cellsOf t) u.sz&&parts (tyIs P d) P (fs.toList.map fun f=>(f.offset,f.type)) 0 u
  |some (.array n e)=>u.zke&&Nat.beq (P.cellsOf t) u.sz&&parts (tyIs P d) P ((List.range n).map fun i=>(i*P.cellsOf e,e)) 0 u
  |_=>false
def Ty.wf:(u:Ty)→u.den→Prop
 | .bool,_=>True
 | .int k,n=>(Lit.int k n).wf=true
 | .str,s=>s.size≤reachBytes
 | .fn,_=>True
 | .slice _ u,xs=>xs.length≤reachBytes∧∀x∈xs,u.wf x
 | .pair a b,x=>a.wf x.1∧b.wf x.2
section
variable {H:Type} {enc:TypeId×Value→H} {P:Program} {w:World} {base:Nat} {spare:Nat→Bool} {held:Bool}
abbrev qfr (P:Program) (t:TypeId) (d:DataW H):Prop:=(d.weights P t).all (· ≤reachBytes)=true
theorem ycs {e:TypeId}:∀{l:List (DataW H)},(DataW.weightsAll P e l).all (· ≤reachBytes)=true→∀d∈l,qfr P e d
 |[],_,d,hd=>by cases hd
 |x::r,h,d,hd=>by
  rw [DataW.weightsAll,List.all_append,Bool.and_eq_true] at h;rcases List.mem_cons.1 hd with rfl|hd
  ·exact h.1
  ·exact ycs h.2 d hd
theorem zmk:∀{ts:List TypeId} {l:List (DataW H)},(DataW.weightsEach P ts l).all (· ≤reachBytes)=true→∀(i:Nat) (t:TypeId) (d:DataW H),ts[i]? =some t→l[i]? =some d→qfr P t d
 |[],_,_,i,t,d,ht,_=>by simp at ht
 |_::_,[],_,i,t,d,_,hd=>by simp at hd
 |t::ts,x::r,h,i,t',d,ht,hd=>by
  rw [DataW.weightsEach,List.all_append,Bool.and_eq_true] at h;cases i with
  |zero=>simp at ht hd;subst ht;subst hd;exact h.1
  |succ i=>simp at ht hd;exact zmk h.2 i t' d ht hd
theorem ybz {rec:TypeId→Ty→Bool} {cs:List Value} (hrec:∀t u,rec t u=true→∀cs' fuel x,DataW.trod enc P w base spare held fuel t cs'=some x→qfr P t x.1→∃y:u.den,Cl (fun _=>False) w u y cs'∧u.wf y):
 ∀(qs:List (Nat×TypeId)) (off:Nat) (u:Ty),parts rec P qs off u=true→cs.length=off+u.sz→(∀q∈qs,∃fuel x,DataW.trod enc P w base spare held fuel q.2 ((cs.drop q.1).take (P.cellsOf q.2))=some x∧qfr P q.2 x.1)→∃y:u.den,Cl (fun _=>False) w u y (cs.drop off)∧u.wf y
 |[],off,u,h,_,_=>by simp [parts] at h
 |[q],off,u,h,hl,hq=>by simp only [parts,Bool.and_eq_true] at h;obtain ⟨h1,h2,h3⟩:=h;obtain ⟨fuel,x,hx,hfx⟩:=hq q (List.mem_cons_self ..);have e1:=Nat.eq_of_beq_eq_true h1;have e2:=Nat.eq_of_beq_eq_true h2;rw [e1,e2,List.take_of_length_le (by simp;omega)] at hx;exact hrec _ _ h3 _ fuel x hx hfx
 |q::q'::r,off,.pair a b,h,hl,hq=>by simp only [parts,Bool.and_eq_true] at h;obtain ⟨h1,h2,h3,h4⟩:=h;obtain ⟨fuel,x,hx,hfx⟩:=hq q (List.mem_cons_self ..);have e1:=Nat.eq_of_beq_eq_true h1;have e2:=Nat.eq_of_beq_eq_true h2;rw [e1,e2] at hx;obtain ⟨y,hy,hwf⟩:=hrec _ _ h3 _ fuel x hx hfx;simp only [Ty.sz] at hl;obtain ⟨z,hz,hzw⟩:=ybz hrec (q'::r) (off+a.sz) b h4 (by omega) (fun p hp=>hq p (List.mem_cons_of_mem _ hp));refine ⟨(y,z),?_,hwf,hzw⟩;rw [Cl];exact ⟨(cs.drop off).take a.sz,cs.drop (off+a.sz),by rw [←List.drop_drop];exact (List.take_append_drop _ _).symm,hy,hz⟩
 |q::q'::r,off,.bool,h,_,_|q::q'::r,off,.int _,h,_,_|q::q'::r,off,.str,h,_,_|q::q'::r,off,.fn,h,_,_|q::q'::r,off,.slice _ _,h,_,_=>by simp [parts] at h
theorem xbr {α:Type} {p:Nat→α→Prop} (n:Nat) (h:∀i,i<n→∃x,p i x):∃l:List α,l.length=n∧∀i x,l[i]? =some x→p i x:=by
 induction n with
 |zero=>exact ⟨[],rfl,fun i x hx=>by simp at hx⟩
 |succ n ih=>
  obtain ⟨l,h1,h2⟩:=ih fun i hi=>h i (by omega)
  obtain ⟨x,hx⟩:=h n (by omega);refine ⟨l++[x],by simp [h1],fun i y hy=> ?_⟩;by_cases hi:i<l.length
  ·rw [List.getElem?_append_left hi] at hy;exact h2 i y hy
  ·rw [List.getElem?_append_right (by omega)] at hy;have:=(List.getElem?_eq_some_iff.1 hy).1;simp only [List.length_singleton] at this;have e:i=n:=by omega
   subst e;rw [h1,Nat.sub_self] at hy;simp at hy;subst hy;exact hx
theorem qzb:∀(d:Nat) (t:TypeId) (u:Ty),tyIs P d t u=true→∀(cs:List Value) (fuel:Nat) (x:DataW H×List MemPlace),DataW.trod enc P w base spare held fuel t cs=some x→qfr P t x.1→∃y:u.den,Cl (fun _=>False) w u y cs∧u.wf y
 |0,t,u,h,_,_,_,_,_=>by simp [tyIs] at h
 |d+1,t,u,h,cs,fuel,x,hx,hfits=>by
  unfold tyIs at h;split at h
  ·rename_i hu;split at h<;>try (cases h;done)
   cases fuel with
   |zero=>simp [DataW.trod] at hx
   |succ n=>
    unfold DataW.trod at hx;rw [hu] at hx;split at hx<;>try (simp at hx;done)
    all_goals try (rename_i h1;cases h1;done)
    all_goals
     first
      |(exact ⟨_,by rw [Cl],trivial⟩)
      |(rename_i h1 _;cases h1;done)
  ·rename_i k' hu;split at h<;>try (cases h;done)
   rename_i k;have hk:=of_decide_eq_true h;subst hk;cases fuel with
   |zero=>simp [DataW.trod] at hx
   |succ n=>
    unfold DataW.trod at hx;rw [hu] at hx;split at hx<;>first
     |(simp at hx;done)
     |(rename_i h1;cases h1;done)
     |(rename_i h1 _;cases h1;done)
     |skip
    all_goals
     rename_i h1;cases h1;split at hx
     ·rename_i hc;obtain ⟨rfl,hwf⟩:=hc;exact ⟨_,by rw [Cl],hwf⟩
     ·cases hx
  ·rename_i hu;split at h<;>try (cases h;done)
   cases fuel with
   |zero=>simp [DataW.trod] at hx
   |succ n=>
    unfold DataW.trod at hx;rw [hu] at hx;split at hx<;>first
     |(simp at hx;done)
     |(rename_i h1;cases h1;done)
     |(rename_i h1 _;cases h1;done)
     |skip
    all_goals
     split at hx
     ·rename_i hc;simp only [Option.some.injEq] at hx;subst hx;refine ⟨_,by rw [Cl],?_⟩;simp only [qfr,DataW.weights,List.all_cons,List.all_nil,Bool.and_true,decide_eq_true_eq] at hfits
      simpa [Ty.wf,ByteArray.toList_eq] using hfits
     ·cases hx
  ·rename_i e' hu;split at h<;>try (cases h;done)
   rename_i e u;simp only [Bool.and_eq_true] at h;obtain ⟨h1,h2,h2b,h3⟩:=h;have e1:=Nat.eq_of_beq_eq_true h1;subst e1;have e2:=Nat.eq_of_beq_eq_true h2;have hbytes:=Nat.le_of_ble_eq_true h2b;rcases open_slice hu hx with ⟨rfl,_⟩|⟨a,len,cap,m,n,D,Pl,rfl,_,hl,hm,hmm,rfl,hel⟩
   ·exact ⟨[],by rw [Cl];exact ⟨none,0,rfl,Nat.le_refl _,.inl rfl⟩,by simp [Ty.wf]⟩
   ·have hlm:len≤m:=by rw [hmm];split<;>omega
    simp only [qfr,DataW.weights,hu,List.all_cons,List.all_append,Bool.and_eq_true,decide_eq_true_eq,List.length_map,List.length_range] at hfits;obtain ⟨hf1,hf2,_⟩:=hfits;have hf3:len≤reachBytes:=by have:(len+(m-len))*1≤(len+(m-len))*P.bytesOf e:=Nat.mul_le_mul_left _ hbytes;omega
    obtain ⟨l,k1,k2⟩:=xbr (p:=fun i (y:u.den)=>(∃ds,Cl (fun _=>False) w u y ds∧∀j v,ds[j]? =some v→w.cell? (a.add (i*u.sz+j))=some v)∧u.wf y) len (fun i hi=>by obtain ⟨cs',c1,c2⟩:=hel i (by omega);obtain ⟨y,y1,y2⟩:=qzb d e u h3 cs' n _ c2 (ycs hf2 _ (List.mem_map.2 ⟨i,List.mem_range.2 hi,rfl⟩));obtain ⟨_,c3,c4⟩:=World.cells?_some c1;refine ⟨y,⟨cs',y1,fun j v hj=> ?_⟩,y2⟩;have hjl:=(List.getElem?_eq_some_iff.1 hj).1;have:=c4 j (by omega);rw [add_add] at this;rw [←e2,this];exact hj);refine ⟨l,?_,by rw [k1];exact hf3,fun y hy=> ?_⟩
    ·rw [Cl];refine ⟨some a,cap,by rw [k1],by omega,.inr ⟨a,rfl,fun h=>h,fun i y hy=>(k2 i y hy).1⟩⟩
    ·obtain ⟨i,hi⟩:=List.getElem?_of_mem hy;exact (k2 i y hi).2
  ·rename_i fs hu;simp only [Bool.and_eq_true] at h;obtain ⟨xs,n,_,rfl,hcl,hxl,hf⟩:=DataW.trod_struct hu hx;simp only [qfr,DataW.weights,hu] at hfits;have:=ybz (cs:=cs) (fun t u h=>qzb d t u h) _ 0 u h.2 (by rw [hcl,Nat.eq_of_beq_eq_true h.1.2,Nat.zero_add]) (fun q hq=>by
    obtain ⟨f,hf1,rfl⟩:=List.mem_map.1 hq;obtain ⟨i,hi⟩:=List.getElem?_of_mem hf1;have hi':fs[i]? =some f:=by rw [←Array.getElem?_toList];exact hi
    have h1:=hf i f hi';have hlt:i<xs.length:=by have:=(Array.getElem?_eq_some_iff.1 hi').1;omega
    rw [List.getElem?_eq_getElem hlt] at h1;exact ⟨n,_,h1,zmk hfits i _ _ (by rw [List.getElem?_map,Array.getElem?_toList,hi'];rfl) (by rw [List.getElem?_map,List.getElem?_eq_getElem hlt];rfl)⟩)
   simpa using this
  ·rename_i n e hu;simp only [Bool.and_eq_true] at h;obtain ⟨xs,m,_,rfl,hcl,hxl,hf⟩:=DataW.trod_array hu hx;simp only [qfr,DataW.weights,hu] at hfits;have:=ybz (cs:=cs) (fun t u h=>qzb d t u h) _ 0 u h.2 (by rw [hcl,Nat.eq_of_beq_eq_true h.1.2,Nat.zero_add]) (fun q hq=>by obtain ⟨i,hi,rfl⟩:=List.mem_map.1 hq;have hlt:=List.mem_range.1 hi;have h1:=hf i hlt;rw [List.getElem?_eq_getElem (by omega)] at h1;exact ⟨m,_,h1,ycs hfits _ (List.mem_map.2 ⟨_,List.getElem_mem _,rfl⟩)⟩)
   simpa using this
  ·cases h
theorem ygr {n:Nat} {e t:TypeId} {r:Reach} {b:Nat} {v:Value} (ht:P.underlying t=some (.array n e)) (h:Value.okWide P w r b t v):∃cs,v= .agg cs∧cs.size=P.cellsOf t:=by simp only [Value.okWide,ht] at h;obtain ⟨cs,h1,h2,_⟩:=h;exact ⟨cs,h1,h2⟩
def Fr.none:Fr:=⟨fun _=>Option.none,fun _=>Option.none⟩
theorem qdd {i d:Nat} {t:TypeId} {u:Ty} {r:Reach} {b:Nat} {v:Value} {dd:DataW H} {ps:List MemPlace} (h:tyIs P d t u=true) (hok:Value.okWide P w r b t v) (ht:DataW.Trod enc P w base spare held t v dd ps) (hfits:qfr P t dd):
 ∃y:u.den,RS (fun _=>False) Fr.none w (Kd.unpack i 0 (.v u []) y) v∧u.wf y:=by
 obtain ⟨fuel,hf⟩:=ht;obtain ⟨y,hy,hwf⟩:=qzb d t u h _ _ _ hf hfits;refine ⟨y,?_,hwf⟩;have hc:=hy.toPC (A:=Fr.none);have agg:u.zke=true→(∃cs,v= .agg cs)→RS (fun _=>False) Fr.none w (Kd.unpack i 0 (.v u []) y) v:=fun hp ⟨cs,hv⟩=>by subst hv;simp only [Kd.unpack,hp,cond_true,zsm];exact ⟨cs.toList,by simp,by simpa [Value.cells] using hc⟩
 have one:u.zke=false→v.oneCell'=true→RS (fun _=>False) Fr.none w (Kd.unpack i 0 (.v u []) y) v:=fun hp hv=>by
  rw [zuy hv] at hc;simp only [Kd.unpack,hp,cond_false,zsm];generalize u.toPC y=L at hc;cases hc with
  |cons h0 ht=>cases ht;exact h0
 cases d with
 |zero=>simp [tyIs] at h
 |succ d=>
  unfold tyIs at h;split at h
  ·rename_i hu;split at h<;>try (cases h;done)
   obtain ⟨x,rfl⟩:=okWide_bool hu hok;exact one rfl rfl
  ·rename_i k hu;split at h<;>try (cases h;done)
   obtain ⟨x,rfl⟩:=okWide_int hu hok;exact one rfl rfl
  ·rename_i hu;split at h<;>try (cases h;done)
   obtain ⟨x,rfl⟩:=okWide_string hu hok;exact one rfl rfl
  ·rename_i hu;split at h<;>try (cases h;done)
   obtain ⟨a,l,c,rfl⟩:=okWide_slice hu hok;exact one rfl rfl
  ·rename_i hu;simp only [Bool.and_eq_true] at h;obtain ⟨cs,rfl,_⟩:=okWide_struct hu hok;exact agg h.1.1 ⟨cs,rfl⟩
  ·rename_i hu;simp only [Bool.and_eq_true] at h;obtain ⟨cs,rfl,_⟩:=ygr hu hok;exact agg h.1.1 ⟨cs,rfl⟩
  ·cases h
end
def Le {α:Type} (a b:Option α):Prop:=∀r,a=some r→b=some r
theorem Le.refl {α:Type} (a:Option α):Le a a:=fun _ h=>h
theorem Le.bind {α β:Type} {a b:Option α} {g g':α→Option β} (h:Le a b) (hg:∀x,Le (g x) (g' x)):Le (a.bind g) (b.bind g'):=fun r hr=>by simp only [Option.bind_eq_some_iff] at hr ⊢;obtain ⟨x,h1,h2⟩:=hr;exact ⟨x,h x h1,hg x r h2⟩
theorem Le.cond {α:Type} {c:Bool} {a b a' b':Option α} (h1:Le a a') (h2:Le b b'):Le (bif c then a else b) (bif c then a' else b'):=by cases c<;>assumption
theorem Le.ite {α:Type} {c:Prop} [Decidable c] {a b a' b':Option α} (h1:Le a a') (h2:Le b b'):Le (if c then a else b) (if c then a' else b'):=by split<;>assumption
section
variable {E:Env} {run run':Runs E}
theorem zuz (h:∀f x,Le (run f x) (run' f x)) (v:FnV) (args:List SV) (t:Ty):Le (zeg E run v args t) (zeg E run' v args t):=by
 unfold zeg;refine Le.cond (.refl _) ?_;split
 ·exact Le.cond (Le.bind (h _ _) fun _=>.refl _) (.refl _)
 ·exact .refl _
theorem zso {α:Type} {p q:α→Bool}:∀{xs:List α},(∀x∈xs,p x=q x)→xs.all p=xs.all q
 |[],_=>rfl
 |x::r,h=>by rw [List.all_cons,List.all_cons,h x (List.mem_cons_self ..),zso fun y hy=>h y (List.mem_cons_of_mem _ hy)]
theorem qbd {u:Ty} {cf cf':u.den→u.den→Option Int} {xs:List u.den} (h:∀x∈xs,∀y∈xs,cf x y=cf' x y):zly u cf xs=zly u cf' xs:=by
 have hl:∀x∈xs,∀y∈xs,ltO cf x y=ltO cf' x y:=fun x hx y hy=>by unfold ltO;rw [h x hx y hy]
 have ho:ygp u cf xs=ygp u cf' xs:=by
  unfold ygp;refine zso fun x hx=> ?_
  rw [hl x hx x hx]
  congr 1
  refine zso fun y hy=> ?_
  rw [h x hx y hy,hl x hx y hy,hl y hy x hx]
  congr 2
  refine zso fun z hz=> ?_
  rw [hl y hy z hz,hl x hx z hz]
 unfold zly;rw [ho];have hm:=List.map_mergeSort (r:=fun x y=> !ltO cf y x) (s:=fun x y=> !ltO cf' y x) (f:=id) (l:=xs) fun x hx y hy=>by rw [hl y hy x hx];rfl
 simp only [List.map_id_fun,id_eq] at hm;rw [hm]
theorem qfy {u:Ty} {cf cf':u.den→u.den→Option Int} (h:∀x y,Le (cf x y) (cf' x y)) (xs:List u.den):Le (zly u cf xs) (zly u cf' xs):=fun ys hy=>by
 obtain ⟨hs,_,_,_⟩:=qfx hy;rw [←qbd fun x hx y hx'=> ?_]
 ·exact hy
 ·rw [hs x hx y hx',h x y _ (hs x hx y hx')]
theorem qfl {α:Type} {ef ef':α→α→Bool} {xs:List α} (h:∀x∈xs,∀y∈xs,ef x y=ef' x y):zaf ef xs=zaf ef' xs:=by
 have go:∀(l:List α) (p:α),p∈xs→(∀x∈l,x∈xs)→zcv ef p l=zcv ef' p l:=by
  intro l
  induction l with
  |nil=>intros;rfl
  |cons y r ih=>intro p hp hl;have hy:=hl y (List.mem_cons_self ..);simp only [zcv];rw [h y hy p hp,ih y hy fun x hx=>hl x (List.mem_cons_of_mem _ hx)]
 cases xs with
 |nil=>rfl
 |cons x r=>simp only [zaf];rw [go r x (List.mem_cons_self ..) fun y hy=>List.mem_cons_of_mem _ hy]
theorem qda {α:Type} {eq eq':α→α→Option Bool} {xs:List α} (h:∀x∈xs,∀y∈xs,eq x y=eq' x y):zdg eq xs=zdg eq' xs:=by unfold zdg;rw [qfl (ef:=fun x y=>(eq x y).getD false) (ef':=fun x y=>(eq' x y).getD false) fun x hx y hy=>by rw [h x hx y hy],zso (p:=fun x=>xs.all fun y=>(eq x y).isSome) (q:=fun x=>xs.all fun y=>(eq' x y).isSome) fun x hx=>zso fun y hy=>by rw [h x hx y hy]]
theorem zwd {α:Type} {eq eq':α→α→Option Bool} (h:∀x y,Le (eq x y) (eq' x y)) (xs:List α):Le (zdg eq xs) (zdg eq' xs):=fun ys hy=>by
 obtain ⟨hs,rfl⟩:=zwc hy;have hs':∀x∈xs,∀y∈xs,eq' x y=some ((eq x y).getD false):=fun x hx y hy=>h x y _ (hs x hx y hy)
 unfold zdg;have:(xs.all fun x=>xs.all fun y=>(eq' x y).isSome)=true:=by simp only [List.all_eq_true];exact fun x hx y hy=>by rw [hs' x hx y hy];rfl
 rw [this];simp only [cond_true,Option.some.injEq];exact qfl fun x hx y hy=>by rw [hs' x hx y hy];rfl
theorem ytu (h:∀f x,Le (run f x) (run' f x)) (σ:St) (d:Option Nat) (f:Nat) (args:List SV):Le (rowK E run σ d f args some) (rowK E run' σ d f args some):=by
 unfold rowK;split
 ·refine Le.ite (Le.cond (Le.bind (zwd (fun x y=>zuz h _ _ _) _) fun _=>.refl _) (Le.bind (qfy (fun x y=>zuz h _ _ _) _) fun _=>.refl _)) (.refl _)
 ·exact .refl _
theorem yrd (h:∀f x,Le (run f x) (run' f x)) (σ:St) (d:Option Nat) (f:Nat) (args:List SV):Le (qww E run σ d f args some) (qww E run' σ d f args some):=by
 unfold qww;refine Le.cond (by split;exact .refl _;exact ytu h _ _ _ _) ?_;split
 ·split
  ·exact Le.cond (Le.bind (h _ _) fun _=>.refl _) (.refl _)
  ·exact .refl _
 ·exact .refl _
theorem yvb (h:∀f x,Le (run f x) (run' f x)) (σ:St) (o:Oper):Le (opK E run σ o some) (opK E run' σ o some):=by
 cases ho:o.op with
 |call c=>
  cases hc:c.callee with
  |value f=>
   simp only [opK,ho,hc];split
   ·exact yrd h _ _ _ _
   ·exact .refl _
   ·split
    ·split
     ·exact Le.bind (zuz h _ _ _) fun _=>.refl _
     ·exact .refl _
    ·exact .refl _
   ·exact .refl _
  |builtin b=>cases b<;>(simp only [opK,ho,hc];exact .refl _)
  |invoke r n=>simp only [opK,ho,hc];exact .refl _
 |makeFunc f a b=>cases f<;>(simp only [opK,ho];exact .refl _)
 |lookup t m k ok=>cases ok<;>(simp only [opK,ho];exact .refl _)
 |_=>simp only [opK,ho];exact .refl _
theorem qpc (h:∀f x,Le (run f x) (run' f x)) {R:Type} (σ:St) (o:Oper) {K K':St→Option R} (hK:∀σ,Le (K σ) (K' σ)):Le (opK E run σ o K) (opK E run' σ o K'):=by rw [qdt,qdt (K:=K')];exact Le.bind (yvb h σ o) hK
theorem qtl {R:Type} {σ:St} {slot:Nat} {want:Bool} {go skip go' skip':St→Option R} (h1:∀σ,Le (go σ) (go' σ)) (h2:∀σ,Le (skip σ) (skip' σ)):Le (qfh σ slot want go skip) (qfh σ slot want go' skip'):=by
 unfold qfh;split
 ·exact Le.cond (Le.cond (h1 _) (h2 _)) (Le.cond (h2 _) (h1 _))
 ·exact h2 _
 ·exact .refl _
theorem yvd (h:∀f x,Le (run f x) (run' f x)) {R:Type} (all:List Oper) (σ:St) (o:Oper) {K K':St→Option R} (hK:∀σ,Le (K σ) (K' σ)):Le (opGK E run all σ o K) (opGK E run' all σ o K'):=by
 unfold opGK;split
 ·exact qpc h σ o hK
 ·split
  ·exact .refl _
  ·exact qtl (fun σ=>qpc h σ o hK) fun σ=>hK _
theorem qsk (h:∀f x,Le (run f x) (run' f x)) {R:Type} (all:List Oper) {K K':St→Option R} (hK:∀σ,Le (K σ) (K' σ)):∀(l:List Oper) (σ:St),Le (opsK E run all l σ K) (opsK E run' all l σ K')
 |[],σ=>hK σ
 |o::r,σ=>yvd h all σ o fun σ'=>qsk h all hK r σ'
theorem qls (h:∀f x,Le (run f x) (run' f x)) {R:Type} (all:List Oper) (bs ds nn:List Nat) {K K':St→List (Nat×(TypeId×List PC))→Option R} (hK:∀σ nb,Le (K σ nb) (K' σ nb)):
 ∀(l:List Oper) (i:Nat) (σ:St) (nb:List (Nat×(TypeId×List PC))),Le (qek E run all bs ds nn i l σ nb K) (qek E run' all bs ds nn i l σ nb K')
 |[],i,σ,nb=>by unfold qek;exact hK σ nb
 |o::r,i,σ,nb=>by
  unfold qek;split
  ·split
   ·exact .refl _
   ·split
    ·exact .refl _
    ·exact Le.cond (qls h all bs ds nn hK r (i+1) _ _) (.refl _)
  ·refine Le.cond ?_ (.refl _);have nx:∀(d:Nat) (σ1:St) (pv:PV) (nb':List (Nat×(TypeId×List PC))),Le (bif pv.refs.all (qeh bs ds i) then qek E run all bs ds nn (i+1) r (σ1.put (some d) pv) nb' K else none) (bif pv.refs.all (qeh bs ds i) then qek E run' all bs ds nn (i+1) r (σ1.put (some d) pv) nb' K' else none):=fun d σ1 pv nb'=>Le.cond (qls h all bs ds nn hK r (i+1) _ nb') (.refl _)
   simp only;split
   ·split
    ·split
     ·split
      ·exact Le.cond (nx _ _ _ _) (.refl _)
      ·exact .refl _
     ·exact .refl _
    ·exact Le.cond (qpc h _ o fun σ'=>nx _ _ _ _) (.refl _)
   ·split
    ·exact .refl _
    ·refine qtl (fun σ1=> ?_) fun σ1=>nx _ _ _ _
     split
     ·split
      ·split
       ·exact Le.cond (nx _ _ _ _) (.refl _)
       ·exact .refl _
      ·exact .refl _
     ·exact Le.cond (qpc h _ o fun σ'=>nx _ _ _ _) (.refl _)
theorem ylk (h:∀f x,Le (run f x) (run' f x)) {R:Type} (all:List Oper) (σ:St) {K K':St→Option R} (hK:∀σ,Le (K σ) (K' σ)):Le (qyj E run all σ K) (qyj E run' all σ K'):=by unfold qyj;exact Le.cond (qls h all _ _ _ (fun σ nb=>qsk h all hK _ _) _ _ _ _) (.refl _)
theorem yqy (h:∀f x,Le (run f x) (run' f x)) {R:Type} (all:List Oper) (σ:St) {K K':St→Option R} (hK:∀σ,Le (K σ) (K' σ)):Le (xcu E run all σ K) (xcu E run' all σ K'):=ylk h all _ hK
theorem qlo {hs os:Shape} {ex:List Ex} {body body':St→(Ex→St→Option (Nat×Tup os.ks))→Option (Nat×Tup os.ks)} (hb:∀σ K K',(∀e σ,Le (K e σ) (K' e σ))→Le (body σ K) (body' σ K')):
 ∀(n m:Nat) (x:Tup hs.ks),n≤m→Le (qwk (hs:=hs) (os:=os) ex body n x) (qwk (hs:=hs) (os:=os) ex body' m x)
 |0,m,x,_=>fun r hr=>by simp [qwk] at hr
 |n+1,0,x,h=>by omega
 |n+1,m+1,x,h=>by
  simp only [qwk];refine hb _ _ _ fun e σ=> ?_
  split
  ·split
   ·exact qlo hb n m _ (by omega)
   ·exact .refl _
  ·exact .refl _
theorem qrf {hs os:Shape} {l:Nat} {ex:List Ex} {body body':St→(Ex→St→Option (Nat×Tup os.ks))→Option (Nat×Tup os.ks)} (hb:∀σ K K',(∀e σ,Le (K e σ) (K' e σ))→Le (body σ K) (body' σ K')):
 ∀(n m:Nat) (x:Tup hs.ks),n≤m→Le (qim (hs:=hs) (os:=os) l ex body n x) (qim (hs:=hs) (os:=os) l ex body' m x)
 |0,m,x,_=>fun r hr=>by simp [qim] at hr
 |n+1,0,x,h=>by omega
 |n+1,m+1,x,h=>by
  simp only [qim];refine hb _ _ _ fun e σ=> ?_
  split
  ·refine Le.ite ?_ (.refl _);split
   ·exact qrf hb n m _ (by omega)
   ·exact .refl _
  ·exact .refl _
theorem qgp {R:Type} {i:Nat} {K K':Ex→Option R} (h:∀e,Le (K e) (K' e)):∀(l:List Ex) (j:Nat),Le (qmz i K l j) (qmz i K' l j)
 |[],j=>.refl _
 |[e],j=>h e
 |e::e'::r,j=>by simp only [qmz];exact Le.cond (h e) (qgp h (e'::r) (j+1))
theorem qyf (h:∀f x,Le (run f x) (run' f x)) {n m f:Nat} (hnm:n≤m):∀(c:Code) (cur:Nat) (j:Option Nat) {R:Type} (σ:St) (K K':Ex→St→Option R),(∀e σ,Le (K e σ) (K' e σ))→Le (zft E run n f c cur j σ K) (zft E run' m f c cur j σ K'):=by
 intro c
 induction c with
 |skip=>intro cur j R σ K K' hK;cases j<;>first|exact hK _ _|exact .refl _
 |region id ops dr=>
  intro cur j R σ K K' hK;cases j with
  |none=>simp only [zft];exact Le.cond (yqy h _ _ fun σ=>hK _ _) (qsk h _ (fun σ=>hK _ _) _ _)
  |some l=>exact .refl _
 |seq a b iha ihb=>
  intro cur j R σ K K' hK;have hk:∀(e:Ex) (σ':St),Le (match e with|Ex.normal=>zft E run n f b cur none σ' K|e=>K e σ') (match e with|Ex.normal=>zft E run' m f b cur none σ' K'|e=>K' e σ'):=fun e σ'=>by
   cases e with
   |normal=>exact ihb cur none σ' K K' hK
   |_=>exact hK _ _
  cases j with
  |none=>simp only [zft];exact iha cur none σ _ _ hk
  |some l=>simp only [zft];exact Le.cond (iha cur (some l) σ _ _ hk) (ihb cur (some l) σ K K' hK)
 |cond c a b iha ihb=>
  intro cur j R σ K K' hK;cases j with
  |some l=>cases c<;>exact .refl _
  |none=>
   cases c with
   |tmp t=>
    simp only [zft];split
    ·exact Le.cond (iha cur none _ K K' hK) (ihb cur none _ K K' hK)
    ·exact .refl _
   |_=>exact .refl _
 |block id c ih=>
  intro cur j R σ K K' hK;cases j with
  |some l=>exact .refl _
  |none=>
   simp only [zft];refine ih id none σ _ _ fun e σ'=> ?_
   split
   ·exact Le.ite (hK _ _) (hK _ _)
   ·exact hK _ _
 |loop c ih=>
  intro cur j R σ K K' hK;cases j with
  |some l=>exact .refl _
  |none=>
   simp only [zft];split
   ·exact .refl _
   ·split
    ·exact .refl _
    ·exact Le.bind (qlo (fun σ' K K' hK=>ih cur none σ' K K' hK) n m _ hnm) fun r=>qgp (fun e=>hK _ _) _ _
 |scope c ih=>
  intro cur j R σ K K' hK;cases j with
  |some l=>exact .refl _
  |none=>
   simp only [zft];refine ih cur none σ _ _ fun e σ'=> ?_
   split
   ·refine Le.cond ?_ (hK _ _);split
    ·split
     ·exact .refl _
     ·exact Le.bind (qrf (fun σ' K K' hK=>ih cur _ σ' K K' hK) n m _ hnm) fun r=>qgp (fun e=>Le.cond (.refl _) (hK _ _)) _ _
    ·exact .refl _
   ·exact hK _ _
 |exit id=>intro cur j R σ K K' hK;cases j<;>first|exact hK _ _|exact .refl _
 |goto l=>intro cur j R σ K K' hK;cases j<;>first|exact hK _ _|exact .refl _
 |ret=>intro cur j R σ K K' hK;cases j<;>first|exact hK _ _|exact .refl _
 |label l=>
  intro cur j R σ K K' hK;cases j with
  |none=>exact hK _ _
  |some l'=>simp only [zft];exact Le.cond (hK _ _) (.refl _)
 |_=>intro cur j R σ K K' hK;exact .refl _
theorem xco (h:∀f x,Le (run f x) (run' f x)) {n m f:Nat} (hnm:n≤m) (fn:Func) (x:Tup (E.sig f).args):Le (fnK E run n f fn x) (fnK E run' m f fn x):=by
 unfold fnK;split
 ·exact .refl _
 ·exact qyf h hnm _ _ _ _ _ _ fun e σ=>.refl _
end
theorem yfb {E:Env}:∀(n m:Nat),n≤m→∀f x,Le (run E n f x) (run E m f x)
 |0,m,_,f,x=>fun r hr=>by simp [run] at hr
 |n+1,0,h,f,x=>by omega
 |n+1,m+1,h,f,x=>by
  simp only [run];split
  ·exact .refl _
  ·split
   ·exact xco (yfb n m (by omega)) (by omega) _ x
   ·exact .refl _
theorem xaj {E:Env} {n m f:Nat} {x:Tup (E.sig f).args} {r:Tup (E.sig f).res} (h:run E n f x=some r) (hnm:n≤m):run E m f x=some r:=yfb n m hnm f x r h
theorem yku {E:Env} {f b k k' n n':Nat} {x:Tup (E.hs f b).ks} {r:Nat×Tup (E.os f b).ks} (h:lp E f b k n x=some r) (hk:k≤k') (hn:n≤n'):lp E f b k' n' x=some r:=by
 unfold lp at h ⊢;split at h
 ·cases h
 ·split at h
  ·cases h
  ·exact qlo (body':=fun σ' K'=>zft E (run E k') k' f _ b none σ' K') (fun σ' K K' hK=>qyf (E:=E) (yfb k k' hk) hk _ b none σ' K K' hK) n n' x hn r h
def Evt {α:Type} (p:Nat→Option α) (a:α):Prop:=∃K,∀k,K≤k→p k=some a
def EvL {α:Type} (p:Nat→Nat→Option α) (a:α):Prop:=∃K,∀k n,K≤k→K≤n→p k n=some a
theorem Evt.ex {α:Type} {p:Nat→Option α} {a:α} (h:Evt p a):∃k,p k=some a:=let ⟨K,hK⟩:=h;⟨K,hK K (Nat.le_refl K)⟩
theorem Evt.ret {α:Type} (a:α):Evt (fun _=>some a) a:=⟨0,fun _ _=>rfl⟩
theorem Evt.bind {α β:Type} {p:Nat→Option α} {q:α→Nat→Option β} {a:α} {b:β} (h:Evt p a) (k:Evt (q a) b):Evt (fun k=>(p k).bind fun x=>q x k) b:=by obtain ⟨K,hK⟩:=h;obtain ⟨L,hL⟩:=k;exact ⟨max K L,fun k hk=>by simp only [hK k (by omega),Option.bind_some];exact hL k (by omega)⟩
theorem Evt.congr {α:Type} {p q:Nat→Option α} {a:α} (h:Evt p a) (e:∀k,q k=p k):Evt q a:=by obtain ⟨K,hK⟩:=h;exact ⟨K,fun k hk=>(e k).trans (hK k hk)⟩
theorem EvL.ret {α:Type} (a:α):EvL (fun _ _=>some a) a:=⟨0,fun _ _ _ _=>rfl⟩
theorem EvL.bind {α β:Type} {p:Nat→Option α} {q:α→Nat→Nat→Option β} {a:α} {b:β} (h:Evt p a) (k:EvL (q a) b):EvL (fun k n=>(p k).bind fun x=>q x k n) b:=by obtain ⟨K,hK⟩:=h;obtain ⟨L,hL⟩:=k;exact ⟨max K L,fun k n hk hn=>by simp only [hK k (by omega),Option.bind_some];exact hL k n (by omega) (by omega)⟩
theorem yir {n:Int} (h0:0≤n) (h1:n≤9223372036854775807):IntKind.wrap .i64 n=n:=by
 have e1:n % 18446744073709551616=n:=by omega
 show (if (true&&decide (n % 18446744073709551616≥9223372036854775808))=true then _ else _)=_;rw [if_neg (by simp;omega)];exact e1
theorem wrap_small {n:Int} (h0: -9223372036854775808≤n) (h1:n≤9223372036854775807):IntKind.wrap .i64 n=n:=by
 by_cases h:0≤n
 ·exact yir h h1
 ·have e1:n % 18446744073709551616=n+18446744073709551616:=by omega
  show (if (true&&decide (n % 18446744073709551616≥9223372036854775808))=true then n % 18446744073709551616-18446744073709551616 else _)=_;rw [if_pos (by simp;omega),e1];omega
theorem qhq {n:Nat} (h:n≤9223372036854775807):IntKind.wrap .i64 (n:Int)=(n:Int):=yir (by omega) (by omega)
theorem ysa {n:Nat} (h:n<9223372036854775807):IntKind.wrap .i64 ((n:Int)+1)=((n+1:Nat):Int):=by rw [yir (by omega) (by omega)];rfl
theorem ztl {i n:Nat} (h:i<n):zaa (i:Int) n=true:=by unfold zaa;simp only [Bool.and_eq_true,decide_eq_true_eq];omega
theorem zax {n:Nat} (h:0<n):zaa 0 n=true:=by unfold zaa;simp only [Bool.and_eq_true,decide_eq_true_eq];omega
theorem zld {a b n:Nat} (h1:a≤b) (h2:b≤n):zbe (a:Int) (b:Int) n=true:=by unfold zbe;simp only [Bool.and_eq_true,decide_eq_true_eq];omega
theorem zrb {α:Type} (xs:List α) (a b:Nat):cut xs (a:Int) (b:Int)=(xs.take b).drop a:=by unfold cut;rw [Int.toNat_natCast,Int.toNat_natCast]
theorem yda {α:Type} (xs:List α) (a:Nat):cut xs (a:Int) (xs.length:Int)=xs.drop a:=by rw [zrb,List.take_length]
theorem qrr {n b:Nat} (h:n*b≤140737488355328):zai n b=true:=by simpa [zai] using h
def Mono {α:Type} (p:Nat→Option α):Prop:=∀k k',k≤k'→Le (p k) (p k')
open Classical in
noncomputable def lim {α:Type} (p:Nat→Option α):Option α:=if h:∃r k,p k=some r then some (Classical.choose h) else none
structure zck {α:Type} (p:Nat→Option α) (a:Option α):Prop where
 mono:Mono p
 iff:∀r,a=some r↔∃k,p k=some r
theorem zck.yca {α:Type} {p:Nat→Option α} (h:Mono p):zck p (lim p):=by
 refine ⟨h,fun r=> ?_⟩;unfold lim;split
 ·rename_i hh;obtain ⟨k,hk⟩:=Classical.choose_spec hh;constructor
  ·intro e;cases e;exact ⟨k,hk⟩
  ·rintro ⟨k',hk'⟩;have h1:=h k (max k k') (by omega) _ hk;have h2:=h k' (max k k') (by omega) _ hk';rw [h1] at h2;exact h2
 ·rename_i hh;constructor
  ·intro e;cases e
  ·rintro ⟨k,hk⟩;exact absurd ⟨r,k,hk⟩ hh
theorem zck.unique {α:Type} {p:Nat→Option α} {a b:Option α} (h:zck p a) (h':zck p b):a=b:=by
 cases ha:a with
 |none=>
  cases hb:b with
  |none=>rfl
  |some r=>have:=(h.iff r).2 ((h'.iff r).1 hb);rw [ha] at this;cases this
 |some r=>exact ((h'.iff r).2 ((h.iff r).1 ha)).symm
theorem zck.eq {α:Type} {p:Nat→Option α} {a:Option α} (h:zck p a):lim p=a:=(zck.yca h.mono).unique h
theorem zck.some {α:Type} (r:α):zck (fun _=>Option.some r) (Option.some r):=⟨fun _ _ _=>Le.refl _,fun r'=>⟨fun h=>⟨0,h⟩,fun ⟨_,h⟩=>h⟩⟩
theorem zck.none {α:Type}:zck (fun _=>(Option.none:Option α)) Option.none:=⟨fun _ _ _=>Le.refl _,fun r'=>⟨fun h=>⟨0,h⟩,fun ⟨_,h⟩=>h⟩⟩
theorem zck.of {α:Type} (p:Nat→Option α) (a:Option α) (h:∀k,p k=a):zck p a:=by
 obtain rfl:p=fun _=>a:=funext h
 exact ⟨fun _ _ _=>Le.refl _,fun r'=>⟨fun h=>⟨0,h⟩,fun ⟨_,h⟩=>h⟩⟩
theorem zck.cond {α:Type} {c:Bool} {p q:Nat→Option α} {a b:Option α} (h1:zck p a) (h2:zck q b):zck (fun k=>bif c then p k else q k) (bif c then a else b):=by cases c<;>assumption
theorem zck.bind {α β:Type} {p:Nat→Option α} {q:α→Nat→Option β} {a:Option α} {b:α→Option β} (h1:zck p a) (h2:∀x,zck (q x) (b x)):zck (fun k=>(p k).bind fun x=>q x k) (a.bind b):=by
 refine ⟨fun k k' hk=>Le.bind (h1.mono k k' hk) fun x=>(h2 x).mono k k' hk,fun r=> ?_⟩;simp only [Option.bind_eq_some_iff];constructor
 ·rintro ⟨x,hx,hr⟩;obtain ⟨k,hk⟩:=(h1.iff x).1 hx;obtain ⟨k',hk'⟩:=((h2 x).iff r).1 hr;exact ⟨max k k',x,h1.mono k _ (by omega) _ hk,(h2 x).mono k' _ (by omega) _ hk'⟩
 ·rintro ⟨k,x,hx,hr⟩;exact ⟨x,(h1.iff x).2 ⟨k,hx⟩,((h2 x).iff r).2 ⟨k,hr⟩⟩
theorem zck.s {α:Type} {r:α}:zck (fun _=>Option.some r) (Option.some r):=.some r
theorem zck.n {α:Type}:zck (fun _=>(Option.none:Option α)) Option.none:=.none
theorem zck.c {α:Type} {c:Bool} {p q:Nat→Option α} {a b:Option α} (h1:zck p a) (h2:zck q b):zck (fun k=>bif c then p k else q k) (bif c then a else b):=.cond h1 h2
theorem zck.b {α β:Type} {p:Nat→Option α} {q:α→Nat→Option β} {a:Option α} {b:α→Option β} (h1:zck p a) (h2:∀{x},zck (q x) (b x)):zck (fun k=>(p k).bind fun x=>q x k) (a.bind b):=h1.bind fun _=>h2
section
variable {E:Env}
theorem zck.run (f:Nat) (x:Tup (E.sig f).args):zck (fun k=>run E k f x) (lim fun k=>run E k f x):=.yca fun k k' h=>yfb k k' h f x
theorem zck.lp (f b:Nat) (x:Tup (E.hs f b).ks):zck (fun k=>lp E f b k k x) (lim fun k=>lp E f b k k x):=.yca fun k k' h r hr=>yku hr h h
variable (E) in
noncomputable def dyn (v:FnV) (args:List SV) (t:Ty):Option t.den:=lim fun k=>zeg E (Go.Sv.run E k) v args t
theorem zck.dyn (v:FnV) (args:List SV) (t:Ty):zck (fun k=>zeg E (Go.Sv.run E k) v args t) (dyn E v args t):=.yca fun k k' h=>zuz (fun f x=>yfb k k' h f x) v args t
theorem yxv {α:Type} {p:α→Nat→Prop} (hm:∀x k k',k≤k'→p x k→p x k'):∀{xs:List α},(∀x∈xs,∃k,p x k)→∃k,∀x∈xs,p x k
 |[],_=>⟨0,fun x hx=>by cases hx⟩
 |x::r,h=>by
  obtain ⟨k,hk⟩:=h x (List.mem_cons_self ..);obtain ⟨k',hk'⟩:=yxv hm fun y hy=>h y (List.mem_cons_of_mem _ hy)
  refine ⟨max k k',fun y hy=> ?_⟩;rcases List.mem_cons.1 hy with rfl|hy
  ·exact hm _ k _ (by omega) hk
  ·exact hm _ k' _ (by omega) (hk' y hy)
theorem yni {α β:Type} {g:Nat→α→α→Option β} {G:α→α→Option β} (h:∀x y,zck (fun k=>g k x y) (G x y)) {xs:List α} {d:β} (hs:∀x∈xs,∀y∈xs,G x y=Option.some ((G x y).getD d)):
 ∃k,∀x∈xs,∀y∈xs,g k x y=G x y:=by
 refine yxv (p:=fun x k=>∀y∈xs,g k x y=G x y) (fun x k k' hk hp y hy=> ?_) fun x hx=>yxv (p:=fun y k=>g k x y=G x y) (fun y k k' hk hp=> ?_) fun y hy=> ?_
 ·by_cases hx:∃r,G x y=Option.some r
  ·obtain ⟨r,hr⟩:=hx;rw [hr];exact (h x y).mono k k' hk r ((hp y hy).trans hr)
  ·cases hg:g k' x y with
   |none=>cases hG:G x y with
    |none=>rfl
    |some r=>exact absurd ⟨r,hG⟩ hx
   |some r=>exact absurd ⟨r,((h x y).iff r).2 ⟨k',hg⟩⟩ hx
 ·cases hG:G x y with
  |some r=>exact (h x y).mono k k' hk r (hp.trans hG)
  |none=>
   cases hg:g k' x y with
   |none=>rfl
   |some r=>have:=((h x y).iff r).2 ⟨k',hg⟩;rw [hG] at this;cases this
 ·obtain ⟨k,hk⟩:=((h x y).iff _).1 (hs x hx y hy);exact ⟨k,hk.trans (hs x hx y hy).symm⟩
theorem zck.zly {u:Ty} {g:Nat→u.den→u.den→Option Int} {G:u.den→u.den→Option Int} {xs:List u.den} (h:∀x y,zck (fun k=>g k x y) (G x y)):zck (fun k=>Go.Sv.zly u (g k) xs) (Go.Sv.zly u G xs):=by
 refine ⟨fun k k' hk=>qfy (fun x y=>(h x y).mono k k' hk) xs,fun r=>⟨fun hr=> ?_,fun ⟨k,hr⟩=> ?_⟩⟩
 ·obtain ⟨hs,_,_,_⟩:=qfx hr;obtain ⟨k,hk⟩:=yni h hs;exact ⟨k,(qbd hk).trans hr⟩
 ·exact qfy (fun x y r' hr'=>((h x y).iff r').2 ⟨k,hr'⟩) xs r hr
theorem zck.zdg {α:Type} {g:Nat→α→α→Option Bool} {G:α→α→Option Bool} {xs:List α} (h:∀x y,zck (fun k=>g k x y) (G x y)):zck (fun k=>Go.Sv.zdg (g k) xs) (Go.Sv.zdg G xs):=by
 refine ⟨fun k k' hk=>zwd (fun x y=>(h x y).mono k k' hk) xs,fun r=>⟨fun hr=> ?_,fun ⟨k,hr⟩=> ?_⟩⟩
 ·obtain ⟨hs,_⟩:=zwc hr;obtain ⟨k,hk⟩:=yni h hs;exact ⟨k,(qda hk).trans hr⟩
 ·exact zwd (fun x y r' hr'=>((h x y).iff r').2 ⟨k,hr'⟩) xs r hr
theorem zad {f:Nat} {x:Tup (E.sig f).args} {p:Nat→Option (Tup (E.sig f).res)} {a:Option (Tup (E.sig f).res)} (h:zck p a) (he:∀k,Go.Sv.run E (k+1) f x=p k:=by intro k;kernel_rfl):lim (fun k=>Go.Sv.run E k f x)=a:=by
 refine (zck.run f x).unique ⟨(zck.run f x).mono,fun r=> ?_⟩;rw [h.iff];constructor
 ·rintro ⟨k,hk⟩;exact ⟨k+1,(he k).trans hk⟩
 ·rintro ⟨k,hk⟩;exact ⟨k,(he k).symm.trans (xaj hk (by omega))⟩
theorem zer {f b:Nat} {x:Tup (E.hs f b).ks} {p:Nat→Option (Nat×Tup (E.os f b).ks)} {a:Option (Nat×Tup (E.os f b).ks)} (h:zck p a) (he:∀k,Go.Sv.lp E f b k (k+1) x=p k:=by intro k;kernel_rfl):lim (fun k=>Go.Sv.lp E f b k k x)=a:=by
 refine (zck.lp f b x).unique ⟨(zck.lp f b x).mono,fun r=> ?_⟩;rw [h.iff];constructor
 ·rintro ⟨k,hk⟩;exact ⟨k+1,yku ((he k).trans hk) (by omega) (by omega)⟩
 ·rintro ⟨k,hk⟩;exact ⟨k,(he k).symm.trans (yku hk (by omega) (by omega))⟩
theorem zlt {v:FnV} {args:List SV} {t:Ty} {f:Nat} {x:Tup (E.sig f).args} {g:Tup (E.sig f).res→Option t.den} (he:∀k,zeg E (Go.Sv.run E k) v args t=(Go.Sv.run E k f x).bind g):dyn E v args t=(lim fun k=>Go.Sv.run E k f x).bind g:=by
 refine (zck.dyn v args t).unique ?_;have:=(zck.run (E:=E) f x).bind (q:=fun r k=>g r) (b:=g) fun r=>⟨fun _ _ _=>Le.refl _,fun r'=>⟨fun h=>⟨0,h⟩,fun ⟨_,h⟩=>h⟩⟩
 rwa [show (fun k=>zeg E (Go.Sv.run E k) v args t)=fun k=>(Go.Sv.run E k f x).bind g from funext he]
theorem yog {f:Nat} {x:Tup (E.sig f).args} {r:Tup (E.sig f).res} (h:lim (fun k=>Go.Sv.run E k f x)=some r):∃k,Go.Sv.run E k f x=some r:=((zck.run f x).iff r).1 h
end
abbrev Nd:=Int×ByteArray×Int
abbrev Tc:=List ByteArray×Int
abbrev Mv:=Int×Int
def ix {α:Type} [Inhabited α] (xs:List α) (i:Int):α:=xs.getD i.toNat default
def w64 (n:Int):Int:=IntKind.wrap .i64 n
theorem qfg {α:Type} [Inhabited α] {xs:List α} {i:Nat} (h:i<xs.length):ix xs (i:Int)=xs[i]:=by unfold ix;rw [Int.toNat_natCast,List.getD_eq_getElem?_getD,List.getElem?_eq_getElem h];rfl
theorem zgz {n:Int} (h0: -9223372036854775808≤n) (h1:n≤9223372036854775807):w64 n=n:=wrap_small h0 h1
theorem toList_inj {a b:ByteArray} (h:a.toList=b.toList):a=b:=by rw [ByteArray.toList_eq,ByteArray.toList_eq] at h;obtain ⟨⟨x⟩⟩:=a;obtain ⟨⟨y⟩⟩:=b;simp only at h;rw [h]
def bq (a b:ByteArray):Bool:=a.toList==b.toList
theorem xkw (a b:ByteArray):bq a b=decide (a=b):=by
 unfold bq;by_cases h:a=b
 ·simp [h]
 ·simp only [h,decide_false,beq_eq_false_iff_ne,ne_eq];exact fun e=>h (toList_inj e)
section
variable {P:Program} {w:World}
theorem zzk {E:Env} (hE:xis P E) (hG:zfe E (fun _=>False) w) {k f:Nat} {x:Tup (E.sig f).args} {r:Tup (E.sig f).res} (hrun:run E k f x=some r) {vs:List Value}
 (hrel:All2 (fun (p:Nat×PV) v=>RP (fun _=>False) Fr.none w p.2 v) (zlu 0 (E.sig f).args x) vs):
 Calls P f vs.toArray w fun e w'=>∃v,e= .returned v∧Below w.heap.size w w'∧∃(F:Nat→Prop) (T:Fr),RP F T w' (yau 0 (E.sig f).res r) v:=by
 have hcon:=(zqd hE k f x r hrun).2;have hF:∀b,¬Fr.none.F (fun _=>False) b:=fun b hb=>by
  rcases hb with hb|⟨d,hb⟩|⟨n,l,hb⟩
  ·exact hb
  ·cases hb
  ·cases hb
 have S:Step (fun _=>False) (Fr.none.F fun _=>False) w w:=⟨fun _ _ _=>rfl,fun b hb=>(hF b hb).elim⟩;refine (hcon w (fun _=>False) (fun _=>False) Fr.none vs ⟨?_,fun _=>rfl,fun n b l h=>(by cases h),fun n n' b l l' h=>(by cases h),fun b h=>h.elim,hG.step S⟩).mono fun e w' hret=> ?_
 ·refine zhn hrel fun p v _ hp=>RP.step S ?_ hp
  cases p.2 with
  |sv s=>exact fun c _=>(Ext.refl _ w).stays c
  |tup l=>exact fun s _ c _=>(Ext.refl _ w).stays c
  |_=>trivial
 ·obtain ⟨v,rfl,hk,hres⟩:=hret;obtain ⟨T,hT⟩:=hres 0;exact ⟨v,rfl,⟨hk.os,hk.tape,hk.output,hk.size,fun b hb=>hk.block b hb fun h=>h⟩,_,T,hT.rel⟩
theorem yqt {g:Nat} {e:TypeId} {ws:List ByteArray} {n:Nat} (hn:ws.length=n) (h:∀(i:Nat) (x:ByteArray),ws[i]? =some x→w.cell? ⟨g,i,none⟩=some (.string x)):Cl (fun _=>False) w (.slice e .str) ws [.slice (some ⟨g,0,none⟩) n n]:=by
 rw [Cl];refine ⟨some ⟨g,0,none⟩,n,by rw [hn],by omega,.inr ⟨_,rfl,fun h=>h,fun i x hx=>⟨[.string x],by rw [Cl],fun j v hj=> ?_⟩⟩⟩;have hj0:j=0:=by have:=(List.getElem?_eq_some_iff.1 hj).1;simp at this;exact this
 subst hj0;simp at hj;subst hj;have:=h i x hx;have e:(⟨g,0,none⟩:Addr).add (i*Ty.str.sz+0)=⟨g,i,none⟩:=by simp [Addr.add,Ty.sz];exact fun h=>h.symm
 rw [e];exact this
theorem qzn {t e:TypeId} {n:Nat} {cs:Array Value} {ws:List ByteArray} {fuel:Nat} {ps:List MemPlace} {H:Type} {enc:TypeId×Value→H} {base:Nat} {spare:Nat→Bool} {held:Bool} {g:Nat} {name:String}
 (hg:P.globalNamed name=some g) (hv:w.var? P name=some cs) (ht:P.underlying t=some (.array n e)) (he:P.underlying e=some .string) (hc:P.cellsOf e=1)
 (hd:DataW.trod enc P w base spare held fuel t cs.toList=some (.agg (ws.map fun x=>.lit (.string x.data.toList)),ps)):∀(i:Nat) (x:ByteArray),ws[i]? =some x→w.cell? ⟨g,i,none⟩=some (.string x):=by
 intro i x hx;obtain ⟨xs,m,_,ex,_,hl,hel⟩:=DataW.trod_array ht hd;simp only [Prod.mk.injEq,DataW.agg.injEq] at ex;have hlen:ws.length=n:=by
  have:=congrArg List.length ex.1
  simpa [hl] using this
 have hin:i<n:=by have:=(List.getElem?_eq_some_iff.1 hx).1;omega
 have hE:=hel i hin;rw [hc,Nat.mul_one,List.getElem?_eq_getElem (by omega)] at hE;obtain ⟨s,e1,e2,_⟩:=DataW.trod_string he hE;have e4:(xs.map (·.1))[i]? =(ws.map fun x=>(DataW.lit (.string x.data.toList):DataW H))[i]? :=by rw [←ex.1]
 rw [List.getElem?_map,List.getElem?_map,List.getElem?_eq_getElem (by omega:i<xs.length),hx,e2] at e4;simp only [Option.map_some,Option.some.injEq,DataW.lit.injEq,Lit.string.injEq] at e4;have hs:s=x:=by obtain ⟨⟨a⟩⟩:=s;obtain ⟨⟨b⟩⟩:=x;simp only at e4;rw [e4]
 rw [World.var?_cell hg hv i];have:cs.toList[i]? =some (.string s):=by
  have h0:((cs.toList.drop i).take 1)[0]? =some (.string s):=by rw [e1];rfl
  simpa using h0
 rw [←hs]
 simpa using this
def qoq (s c:ByteArray):Option ByteArray:=bif decide (s.size≤9223372036854775807)&&(decide (c.size<4294967281)&&c.data.toList.all fun b=>decide (b.toNat<128)) then some ⟨(Lib.trimS s.data.toList c.data.toList).toArray⟩ else none
theorem qzc {E:Env} {f:Nat} (hsig:E.sig f=⟨[.v .str [],.v .str []],[.v .str []],false⟩)
 (hc:∀(s c:ByteArray) (w:World),s.size≤9223372036854775807→c.size<4294967281→(c.data.toList.all fun b=>decide (b.toNat<128))=true→
  Calls P f #[.string s,.string c] w fun e w'=>e= .returned (.string ⟨(Lib.trimS s.data.toList c.data.toList).toArray⟩)∧Below w.heap.size w w'∧w.drawn≤w'.drawn):
 ∀(x:Tup (E.sig f).args) (r:Tup (E.sig f).res) (y:ByteArray×ByteArray) (q:ByteArray),HEq x y→HEq r q→qoq y.1 y.2=some q→zdw P E f x r:=by
 intro x r y q hx hr hsp w F0 G A vs hA;generalize hS:E.sig f=S at x r hA;rw [hsig] at hS;subst hS;cases hx;cases hr;unfold qoq at hsp;cases hcnd:(decide (y.1.size≤9223372036854775807)&&(decide (y.2.size<4294967281)&&y.2.data.toList.all fun b=>decide (b.toNat<128))) with
 |false=>rw [hcnd] at hsp;cases hsp
 |true=>
  rw [hcnd] at hsp;cases hsp;simp only [Bool.and_eq_true,decide_eq_true_eq] at hcnd;have hrel:=hA.rel;have hargs:zlu 0 [Kd.v .str [],.v .str []] y=[(0,.sv (.one (.str y.1))),(1,.sv (.one (.str y.2)))]:=rfl;rw [hargs] at hrel;obtain ⟨v0,vs1,h0,hrel1,rfl⟩:∃v0 vs1,RP (A.F F0) A w (.sv (.one (.str y.1))) v0∧All2 (fun (p:Nat×PV) v=>RP (A.F F0) A w p.2 v) [(1,.sv (.one (.str y.2)))] vs1∧vs=v0::vs1:=by cases hrel with|cons h t=>exact ⟨_,_,h,t,rfl⟩
  obtain ⟨v1,h1,rfl⟩:∃v1,RP (A.F F0) A w (.sv (.one (.str y.2))) v1∧vs1=[v1]:=by cases hrel1 with|cons h t=>cases t;exact ⟨_,h,rfl⟩
  have e0:v0= .string y.1:=h0;have e1:v1= .string y.2:=h1;subst e0;subst e1;refine (hc y.1 y.2 w hcnd.1 hcnd.2.1 hcnd.2.2).mono fun e w' ⟨he,hb,hdr⟩=>⟨_,he,⟨hb.os,hb.tape,hb.output,hb.size,fun k hk _=>hb.block k hk,hdr⟩,fun d=>⟨Fr.none,?_,fun _=>rfl,fun n b l h=>(by cases h),fun n n' b l l' h=>(by cases h)⟩⟩
  rfl
end
theorem yzi {P:Program} {W:World} {name:String} {g:Nat} {cs:Array Value} (hg:P.globalNamed name=some g) (h:W.var? P name=some cs):∃t z,W.heap[g]? =some (.cells cs t z):=by
 unfold World.var? at h;rw [hg,Option.bind_some] at h;cases ho:W.heap[g]? with
 |none=>rw [ho] at h;cases h
 |some o=>rw [ho] at h;cases o<;>first|(cases h;exact ⟨_,_,rfl⟩)|cases h
end Go.Sv
