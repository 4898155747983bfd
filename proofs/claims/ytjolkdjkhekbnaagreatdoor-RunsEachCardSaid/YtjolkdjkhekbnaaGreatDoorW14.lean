/- Of what is plain, settled and small: what comes of its moves; how many traces it has. -/
import Derived.Test.YtjolkdjkhekbnaaGreatDoorL13d
import Derived.Test.YtjolkdjkhekbnaaGreatDoorR11
import Derived.Test.YtjolkdjkhekbnaaGreatDoorM18
import Derived.Test.YtjolkdjkhekbnaaGreatDoorX21
namespace Go.Proofs.YtjolkdjkhekbnaaGreatDoor.Sv
open Go Go.Sv Go.Rd
def Good (n:Tm):Prop:=n.fine∧n.st=n∧n.po=true∧n.small
theorem Good.set [Dfr] {n:Tm} (h:Good n):setL n.row:=zxv h.1 (by have:=h.2.2.2.1;omega) (.inl h.2.2.1) h.2.1
theorem Good.len [Dfr] {n:Tm} (h:Good n):n.row.length≤24:=by rw [Tm.zab];exact h.2.2.2.1
theorem ztm [Dfr] {n:Tm} (h:Good n) {mv:Mv} (hm:mv∈enL n.row):∃n':Tm,(zds n.row mv).1=n'.row∧(zds n.row mv).2.2=0∧Good n'∧cntW n'.row<cntW n.row∧zsm n.row mv=zjw (zds n.row mv).2.1 n'.tr∧n'.size≤n.size∧
 (n.okB=true→n'.okB=true):=by
 obtain ⟨hz,hcnt,_,_⟩:=qgr hm
 have hs:=h.set
 obtain ⟨c,u,e,hu,h1,h2⟩:=yvm hm
 subst e
 have hme:mv=((c.pos:Int),mv.2):=by rw [←h1]
 rw [hme] at h2
 obtain ⟨n1,n2,n3,n4,_⟩:=qvc hs hu h2
 have hpo:=n4 h.2.2.1
 have hsm:=qas (how:=mv.2) hu h.2.2.2 n3
 have e1:(zds (c.fill u).row mv).1=(c.fill (u.mdT mv.2)).st.row:=by rw [hme];exact congrArg Prod.fst n1
 have hsz:=Tm.zdk (c.fill (u.mdT mv.2))
 have hg:Good (c.fill (u.mdT mv.2)).st:=⟨Tm.qaj n2,Tm.ywc _,Tm.qzf hpo,hsm⟩
 refine ⟨(c.fill (u.mdT mv.2)).st,e1,hz,hg,by rw [←e1];exact hcnt,?_,by omega,fun hk=> ?_⟩
 ·unfold zsm
  rw [e1,qap hg.1 (by have:=hg.2.2.2.1;omega) hg.2.2.1 hg.2.2.2]
 ·have hw:=(qmc hu).1 h2
  rw [qom hs] at hw
  exact (Tm.ywd _ n2 (.inl hpo) (Tm.ztq hu c true (.inl h.2.2.1) hw hk).1).1
theorem ymp [Dfr] (l:List Nd):(List.range l.length).map (fun k=>l.getD k default)=l:=by
 apply List.ext_getElem
 ·simp
 ·intro i h1 h2
  simp only [List.getElem_map,List.getElem_range,List.getD_eq_getElem?_getD,List.getElem?_eq_getElem h2,Option.getD_some]
theorem yqp [Dfr] {l:List Nd} {t:T} (ht:tree l=some t):(t.wts 0).length≤cntW l:=by
 obtain ⟨hok,hrow⟩:=zht.1 ht
 have hlen:t.size=l.length:=by rw [hrow,T.zab]
 rw [zih l t 0 [] (by rw [List.drop_zero,List.append_nil];exact hrow),hlen,←List.range_eq_range']
 have h1:((List.range l.length).filter fun k=>zcp (l.getD k default).1&& !zvd (t.path 0 k)).length≤((List.range l.length).filter fun k=>zcp (l.getD k default).1).length:=by
  rw [←List.countP_eq_length_filter,←List.countP_eq_length_filter]
  refine List.countP_mono_left fun k _ hk=> ?_
  rw [Bool.and_eq_true] at hk
  exact hk.1
 refine Nat.le_trans h1 (Nat.le_of_eq ?_)
 unfold cntW
 conv=>rhs;rw [←ymp l,List.countP_map]
 rw [←List.countP_eq_length_filter]
 rfl
theorem qwa [Dfr] (l:List Nd):(enL l).length≤cntW l*2:=by
 by_cases hs:setL l
 ·obtain ⟨m,hm,_,hz,_,_,_,ht⟩:=zyl hs
  rw [qhq ht hs]
  unfold mvsT
  have h1:=zib (A:=m.t.wts 0) (f:=fun k=>zit (l.getD k default).1 (k:Int) (qaz m.t k)) (k:=2) fun k _=>qgs _ _ _
  have h2:=yqp ht
  omega
 ·rw [qys hs];simp
def fct:Nat→Nat
 |0=>1
 |k+1=>(k+1)*2*fct k
theorem qbc [Dfr]:∀k,1≤fct k
 |0=>Nat.le_refl _
 |k+1=>by
  have:=qbc k
  unfold fct
  exact Nat.mul_pos (by omega) this
theorem qxn [Dfr] {n:Tm} (h:Good n) (ho:n.zhh=false):canon cmpT ((enL n.row).flatMap (zsm n.row))=n.tr :=
 qfb ordT (zmq ordT _) (Tm.qxq n) fun x=>(zbn ordT).trans (qmu h.set h.2.2.1 h.2.2.2 ho x)
theorem qez [Dfr] {n:Tm} {k:Nat} (h:Good n) (hk:∀n':Tm,Good n'→cntW n'.row<cntW n.row→n'.tr.length≤k):((enL n.row).flatMap (zsm n.row)).length≤cntW n.row*2*k:=by
 refine Nat.le_trans (zib (k:=k) fun mv hmv=> ?_) (Nat.mul_le_mul_right _ (qwa _))
 obtain ⟨n',e1,_,hg,hc,e2,_,_⟩:=ztm h hmv
 rw [e2]
 unfold zjw
 rw [List.length_map]
 exact hk n' hg hc
theorem ycj [Dfr]:∀(k:Nat) (n:Tm),Good n→cntW n.row≤k→n.tr.length≤fct k
 |k,n,h,hc=>by
  cases ho:n.zhh with
  |true =>
   cases n<;>first|(cases ho;done)|skip
   rename_i s
   have:=zah (c:=cmpT) [(([]:List ByteArray),s)]
   exact Nat.le_trans this (qbc k)
  |false =>
   rw [←qxn h ho]
   refine Nat.le_trans (zah _) ?_
   cases k with
   |zero =>
    have e0:cntW n.row=0:=by omega
    have h1:=qwa n.row
    have:enL n.row=[]:=List.length_eq_zero_iff.1 (by omega)
    rw [this];exact Nat.zero_le _
   |succ k =>
    refine Nat.le_trans (qez (k:=fct k) h fun n' hg hlt=>ycj k n' hg (by omega)) ?_
    show cntW n.row*2*fct k≤(k+1)*2*fct k
    exact Nat.mul_le_mul_right _ (Nat.mul_le_mul_right _ hc)
theorem qqd [Dfr] {n:Tm} (h:Good n) (hc:cntW n.row≤8):((enL n.row).flatMap (zsm n.row)).length≤11000000:=by
 refine Nat.le_trans (qez (k:=fct 7) h fun n' hg hlt=>ycj 7 n' hg (by omega)) ?_
 have:cntW n.row*2*fct 7≤8*2*fct 7:=Nat.mul_le_mul_right _ (Nat.mul_le_mul_right _ hc)
 have e:8*2*fct 7≤11000000:=by decide
 omega
theorem qag [Dfr] {n:Tm} (h:Good n) (hc:cntW n.row≤8):n.tr.length≤11000000:=by
 have:=ycj 8 n h hc
 have e:fct 8≤11000000:=by decide
 omega
end Go.Proofs.YtjolkdjkhekbnaaGreatDoor.Sv
namespace Go.Proofs.YtjolkdjkhekbnaaGreatDoor.Sv
open Go Go.Sv Go.Proofs Go.Rd Go.RowKit
set_option maxRecDepth 100000
def ogF (F:Nat→Prop) (og:Option Nat) (b:Nat):Prop:=F b∨og=some b
def OwnO (F:Nat→Prop) (w:World) (e:TypeId) (u:Ty) (xs:List u.den) (v:Value):Option Nat→Prop
 |none=>xs=[]∧∃a,v= .slice a 0 0
 |some g=>OwnAt (ogF F (some g)) w e u xs g xs.length v
theorem qky [Dfr] [zcx] {ty e tt:TypeId} {u:Ty} {i ie:TI} (hty:E.ti ty=some i) (hd:i.d= .slice e) (he:E.ti e=some ie) (hsz:ie.size=u.sz) {F:Nat→Prop} {w:World} {xs ys:List u.den} {v vx:Value} {og:Option Nat}
 (hF:∀b,F b→b<w.heap.size∧og≠some b) (hog:∀g,og=some g→g<w.heap.size) (hg:zcr E (ogF F og) w) (hown:OwnO F w e u xs v og) (hx:Cl (ogF F og) w (.slice e u) ys [vx]) (hroom:zav (xs.length+ys.length) ie.bytes=true) :
 ∃v' w' og',(Builtin.append_ #[ty,ty] tt #[v,vx]).run Tryz.prog w= .ok v' w'∧OwnO F w' e u (xs++ys) v' og'∧Kept (fun b=>og=some b) w w'∧(∀g',og'=some g'→og=some g'∨w.heap.size≤g')∧∀g',og'=some g'→g'<w'.heap.size:=by
 let X:Ctx:={P:=Tryz.prog,E:=E,W:=w,G:=fun b=>og=some b,F0:=F,n:=0}
 let A:Fr:=⟨fun _=>none,fun m=>if m=1 then og.map (fun g=>(g,xs.length)) else none⟩
 have htg:∀m b l,A.tg m=some (b,l)→m=1∧og=some b∧l=xs.length:=fun m b l h=>by
  simp only [A] at h
  split at h
  ·rename_i e1
   cases og with
   |none=>cases h
   |some g=>simp only [Option.map_some,Option.some.injEq,Prod.mk.injEq] at h;exact ⟨e1,by rw [h.1],h.2.symm⟩
  ·cases h
 have hXF:X.F A=ogF F og:=funext fun b=>propext ⟨fun h=>by
  rcases h with h|⟨d,h⟩|⟨m,l,h⟩
  ·exact .inl h
  ·cases h
  ·exact .inr (htg m b l h).2.1,fun h=>by
  rcases h with h|h
  ·exact .inl h
  ·exact .inr (.inr ⟨1,xs.length,by simp [A,h]⟩)⟩
 have hi:Inv X A ⟨[],[]⟩ #[] w:=⟨rfl,Kept.refl _ _,by rw [hXF];exact hg,fun i=>trivial,fun d t c h=>(by simp [getB] at h),
  ⟨fun d b h=>(by cases h),fun m b l h=>⟨.inr (htg m b l h).2.1,hog b (htg m b l h).2.1⟩,fun d d' b h _=>(by cases h),fun m m' b l l' h h'=>(htg m b l h).1.trans (htg m' b l' h').1.symm,fun d m b l h _=>(by cases h),fun b h=>⟨(hF b h).1,(hF b h).2⟩⟩,fun z hz=>(by cases hz)⟩
 have hS:RC (X.F A) A w (.slice e u xs (.own 1)) v:=by
  rw [hXF]
  cases og with
  |none=>exact .inl ⟨rfl,hown.1,hown.2⟩
  |some g=>exact .inr ⟨g,xs.length,rfl,hown⟩
 have hX:RC (X.F A) A w (.slice e u ys .no) vx:=by rw [hXF];exact hx
 obtain ⟨v',w',hr,_,h2⟩:=qij (X:=X) (tt:=tt) (g:=.own 1) (g':=.no) (l:=[1,2]) (t:=2) (tab.types.ti _ _ hty) hd (tab.types.ti _ _ he) hsz hi hS hX (by simp) hroom (by simp) (fun n h=>by cases h;simp)
 obtain ⟨A',hi',hrc⟩:=h2 (by simp)
 rcases hrc with ⟨_,hnil,ha⟩|⟨g',l',ht',hown'⟩
 ·exact ⟨v',w',none,hr,⟨hnil,ha⟩,hi'.kept,fun _ h=>(by cases h),fun _ h=>(by cases h)⟩
 ·have hmine:=hi'.good.tgm _ _ _ ht'
  refine ⟨v',w',some g',hr,?_,hi'.kept,fun g'' h=>(by
   cases h
   rcases hmine.1 with h|h
   ·exact .inr h
   ·exact .inl h),fun g'' h=>(by cases h;exact hmine.2)⟩
  obtain ⟨hl,cap,cur,hv,hh,q1,q2,q3,q4⟩:=hown'
  refine ⟨rfl,cap,cur,hv,hh,q1,q2,q3,fun i x hx=> ?_⟩
  obtain ⟨ds,hd,hj⟩:=q4 i x hx
  refine ⟨ds,Cl.lift (fun b hb=> ?_) hd,hj⟩
  rcases hb with hb|hb
  ·exact .inl hb
  ·cases hb;exact .inr (.inr ⟨2,l',ht'⟩)
theorem qkg [Dfr] [zcx] {ops:Array Oper} {rest:List Oper} {o:Oper} {a:Act} {Q:Exit→Act→World→Prop} {w:World} (hgd:o.guard=none) (s x:Operand) (ty:TypeId) (hop:o.op=Op.call {callee:=Callee.builtin Builtin.append,args:= #[s,x],argTypes:= #[ty,ty]})
 {e:TypeId} {u:Ty} {i ie:TI} (hty:E.ti ty=some i) (hd:i.d= .slice e) (he:E.ti e=some ie) (hsz:ie.size=u.sz) {F:Nat→Prop} {xs ys:List u.den} {v vx:Value} {og:Option Nat} (hs:a.eval s=v) (hx:a.eval x=vx)
 (hF:∀b,F b→b<w.heap.size∧og≠some b) (hog:∀g,og=some g→g<w.heap.size) (hg:zcr E (ogF F og) w) (hown:OwnO F w e u xs v og) (hcl:Cl (ogF F og) w (.slice e u) ys [vx]) (hroom:zav (xs.length+ys.length) ie.bytes=true)
 (hK:∀v' w' og',OwnO F w' e u (xs++ys) v' og'→Kept (fun b=>og=some b) w w'→(∀g',og'=some g'→og=some g'∨w.heap.size≤g')→(∀g',og'=some g'→g'<w'.heap.size)→wpList Tryz.prog ops Q rest (a.put o.dst v') w'):wpList Tryz.prog ops Q (o::rest) a w:=by
 refine wpList_plain hgd fun K hK'=> ?_
 obtain ⟨v',w',og',hrun,r1,r2,r3,r4⟩:=qky (tt:=o.type) hty hd he hsz hF hog hg hown hcl hroom
 unfold Oper.wp
 simp [execOp,hop,resolve,invoke,builtin,hs,hx,hrun,Result.andThen]
 exact hK' _ _ (hK v' w' og' r1 r2 r3 r4)
theorem ypr [Dfr] {F:Nat→Prop} {w:World} {e:TypeId} {u:Ty} {xs:List u.den} {v:Value} {og:Option Nat} (h:OwnO F w e u xs v og) (hF:∀g,og=some g→¬F g):Cl F w (.slice e u) xs [v]:=by
 cases og with
 |none =>
  obtain ⟨rfl,a,rfl⟩:=h
  rw [Cl]
  exact ⟨a,0,rfl,Nat.le_refl _,.inl rfl⟩
 |some g =>
  obtain ⟨_,cap,cur,rfl,hh,hc,hm,hs,hel⟩:=h
  rw [Cl]
  refine ⟨_,cap,rfl,hc,.inr ⟨_,rfl,hF g rfl,fun i x hi=> ?_⟩⟩
  obtain ⟨ds,hd,hj⟩:=hel i x hi
  refine ⟨ds,Cl.lift (fun b hb=>.inl hb) hd,fun j u hu=> ?_⟩
  have:=hj j u hu
  rw [zfk,cell_of_block hh,Nat.zero_add]
  exact this
theorem zuq [Dfr] {F:Nat→Prop} {w w':World} {e:TypeId} {u:Ty} {xs:List u.den} {v:Value} {og:Option Nat} (h:OwnO F w e u xs v og) (S:Step (ogF F og) (ogF F og) w w') (hb:∀g,og=some g→w'.heap[g]? =w.heap[g]?):OwnO F w' e u xs v og:=by
 cases og with
 |none=>exact h
 |some g=>exact OwnAt.step S (hb g rfl) h
theorem zar [Dfr] {F:Nat→Prop} {G:Nat→Prop} {w w':World} (hk:Kept G w w') (hG:∀b,G b→F b):Step F F w w' :=
 ⟨fun b hb hlt=>hk.block b hlt fun h=>hb (hG b h),fun b h=>.inl h⟩
abbrev TcY:Ty:=.pair (.slice 9 .str) (.int .i64)
abbrev MvY:Ty:=.pair (.int .i64) (.int .i64)
abbrev StY:Ty:=.slice 9 .str
theorem zca [Dfr] {F:Nat→Prop} {w:World} {e:TypeId} {u:Ty} {xs:List u.den} {v:Value} (h:Cl F w (.slice e u) xs [v]):∃s c,v= .slice s xs.length c:=by
 rw [Cl] at h
 obtain ⟨s,c,e,_⟩:=h
 exact ⟨s,c,(List.cons.inj e).1⟩
section
variable {W:World} {F:Nat→Prop}
theorem zrt [Dfr] [zcx] {l:List Nd} {s:Int} {b:Bool} (h:zcz l=some (s,b)) {v:Value} (hF:∀b,F b→b<W.heap.size) (hg:zcr E F W) (hc:Cl F W (.slice 68 NdY) l [v]) :
 Calls Tryz.prog 44 #[v] W fun e w'=>e= .returned (.tuple #[.int .i64 s,.bool b])∧Kept (fun _=>False) W w':=by
 refine (zgp 44 l (s,b) (((qda l).iff _).1 h) hF hg (vs:=[v]) (.cons hc .nil)).mono ?_
 rintro e w' ⟨u,rfl,hk,T,hr,_,_⟩
 have hr':RP (T.F F) T w' (.tup [.one (.int .i64 s),.one (.bool b)]) u:=hr
 obtain ⟨vs,rfl,hu⟩:=hr'
 cases hu with
 |cons h0 hu=>cases hu with
  |cons h1 hu =>
   cases hu
   cases h0
   cases h1
   exact ⟨rfl,hk⟩
theorem zzm [Dfr] [zcx] {l:List Nd} {ms:List Mv} (h:zey l=some ms) {v:Value} (hF:∀b,F b→b<W.heap.size) (hg:zcr E F W) (hc:Cl F W (.slice 68 NdY) l [v]) :
 Calls Tryz.prog 28 #[v] W fun e w'=>∃s c,e= .returned (.slice s ms.length c)∧Kept (fun _=>False) W w'∧Cl F w' (.slice 71 MvY) ms [.slice s ms.length c]:=by
 refine (zgp 28 l ms (((qdd l).iff _).1 h) hF hg (vs:=[v]) (.cons hc .nil)).mono ?_
 rintro e w' ⟨u,rfl,hk,T,hr,_,hn⟩
 obtain ⟨g,hg2,hr'⟩:∃g:Tag,g≠.nil∧RP (T.F F) T w' (.sv (.one (.slice 71 MvY ms g))) u:=by first|exact ⟨.no,(by simp),hr⟩|exact ⟨.own (zay 0 0 0),(by simp),hr⟩
 have hcl:Cl F w' (.slice 71 MvY) ms [u]:=qga hn hg2 hr'
 obtain ⟨s,c,rfl⟩:=zca hcl
 exact ⟨s,c,rfl,hk,hcl⟩
theorem qkz [Dfr] [zcx] {l l':List Nd} {m:Mv} {nm:ByteArray} {z:Int} (h:zmo l m=some (l',nm,z)) {v:Value} (hF:∀b,F b→b<W.heap.size) (hg:zcr E F W) (hc:Cl F W (.slice 68 NdY) l [v]) :
 Calls Tryz.prog 41 #[v,.agg #[.int .i64 m.1,.int .i64 m.2]] W fun e w'=>∃s c,e= .returned (.tuple #[.slice s l'.length c,.string nm,.int .i64 z])∧Kept (fun _=>False) W w'∧Cl F w' (.slice 68 NdY) l' [.slice s l'.length c]:=by
 refine (zgp 41 (l,m) (l',nm,z) (((qmw l m).iff _).1 h) hF hg (vs:=[v,.agg #[.int .i64 m.1,.int .i64 m.2]]) (.cons hc (.cons ⟨[.int .i64 m.1,.int .i64 m.2],rfl,.cons rfl (.cons rfl .nil)⟩ .nil))).mono ?_
 rintro e w' ⟨u,rfl,hk,T,hr,_,hn⟩
 obtain ⟨g,hg2,hr'⟩:∃g:Tag,g≠.nil∧RP (T.F F) T w' (.tup [.one (.slice 68 NdY l' g),.one (.str nm),.one (.int .i64 z)]) u:=by first|exact ⟨.no,(by simp),hr⟩|exact ⟨.own (zay 0 0 0),(by simp),hr⟩
 obtain ⟨vs,rfl,hu⟩:=hr'
 cases hu with
 |cons h0 hu=>cases hu with
  |cons h1 hu=>cases hu with
   |cons h2 hu =>
    cases hu
    cases h1
    cases h2
    have hcl:=qga hn hg2 h0
    obtain ⟨s,c,rfl⟩:=zca hcl
    exact ⟨s,c,rfl,hk,hcl⟩
theorem qzd [Dfr] [zcx] {p q r:Tc} (h:zpk p q=some r) {va vb:Value} (hF:∀b,F b→b<W.heap.size) (hg:zcr E F W) (ha:Cl F W StY p.1 [va]) (hb:Cl F W StY q.1 [vb]) :
 Calls Tryz.prog 85 #[.agg #[va,.int .i64 p.2],.agg #[vb,.int .i64 q.2]] W fun e w'=>∃s c,e= .returned (.agg #[.slice s r.1.length c,.int .i64 r.2])∧Kept (fun _=>False) W w'∧Cl F w' StY r.1 [.slice s r.1.length c]:=by
 refine (zgp 85 (p,q) r (((qit p q).iff _).1 h) hF hg (vs:=[.agg #[va,.int .i64 p.2],.agg #[vb,.int .i64 q.2]]) (.cons ⟨[va,.int .i64 p.2],rfl,.cons ha (.cons rfl .nil)⟩ (.cons ⟨[vb,.int .i64 q.2],rfl,.cons hb (.cons rfl .nil)⟩ .nil))).mono ?_
 rintro e w' ⟨u,rfl,hk,T,hr,_,hn⟩
 obtain ⟨g,hg2,hr'⟩:∃g:Tag,g≠.nil∧RP (T.F F) T w' (.sv (.agg [.slice 9 .str r.1 g,.int .i64 r.2])) u:=by first|exact ⟨.no,(by simp),hr⟩|exact ⟨.own (zay 0 0 0),(by simp),hr⟩
 obtain ⟨vs,rfl,hu⟩:=hr'
 cases hu with
 |cons h0 hu=>cases hu with
  |cons h1 hu =>
   cases hu
   cases h1
   have hcl:=qga hn hg2 h0
   obtain ⟨s,c,rfl⟩:=zca hcl
   exact ⟨s,c,rfl,hk,hcl⟩
theorem qqo [Dfr] [zcx] {l r:List Tc} (h:zpl l=some r) {v:Value} (hF:∀b,F b→b<W.heap.size) (hg:zcr E F W) (hc:Cl F W (.slice 33 TcY) l [v]) :
 Calls Tryz.prog 48 #[v] W fun e w'=>∃s c,e= .returned (.slice s r.length c)∧Kept (fun _=>False) W w'∧Cl F w' (.slice 33 TcY) r [.slice s r.length c]:=by
 refine (zgp 48 l r (((qmi l).iff _).1 h) hF hg (vs:=[v]) (.cons hc .nil)).mono ?_
 rintro e w' ⟨u,rfl,hk,T,hr,_,hn⟩
 obtain ⟨g,hg2,hr'⟩:∃g:Tag,g≠.nil∧RP (T.F F) T w' (.sv (.one (.slice 33 TcY r g))) u:=by first|exact ⟨.no,(by simp),hr⟩|exact ⟨.own (zay 0 0 0),(by simp),hr⟩
 have hcl:Cl F w' (.slice 33 TcY) r [u]:=qga hn hg2 hr'
 obtain ⟨s,c,rfl⟩:=zca hcl
 exact ⟨s,c,rfl,hk,hcl⟩
theorem qsp [Dfr] [zcx] {l:List Tc} {t:Tc} {b:Bool} (h:zmn l t=some b) {v vt:Value} (hF:∀b,F b→b<W.heap.size) (hg:zcr E F W) (hc:Cl F W (.slice 33 TcY) l [v]) (ht:Cl F W StY t.1 [vt]) :
 Calls Tryz.prog 33 #[v,.agg #[vt,.int .i64 t.2]] W fun e w'=>e= .returned (.bool b)∧Kept (fun _=>False) W w':=by
 refine (zgp 33 (l,t) b (((qmk l t).iff _).1 h) hF hg (vs:=[v,.agg #[vt,.int .i64 t.2]]) (.cons hc (.cons ⟨[vt,.int .i64 t.2],rfl,.cons ht (.cons rfl .nil)⟩ .nil))).mono ?_
 rintro e w' ⟨u,rfl,hk,T,hr,_,hn⟩
 cases (show u= .bool b from hr)
 exact ⟨rfl,hk⟩
theorem zxh [Dfr] [zcx] {l:List Nd} {z:Int} (h:zuh l=some z) {v:Value} (hF:∀b,F b→b<W.heap.size) (hg:zcr E F W) (hc:Cl F W (.slice 68 NdY) l [v]) :
 Calls Tryz.prog 47 #[v] W fun e w'=>e= .returned (.int .i64 z)∧Kept (fun _=>False) W w':=by
 refine (zgp 47 l z (((qjg l).iff _).1 h) hF hg (vs:=[v]) (.cons hc .nil)).mono ?_
 rintro e w' ⟨u,rfl,hk,T,hr,_,hn⟩
 cases (show u= .int .i64 z from hr)
 exact ⟨rfl,hk⟩
theorem qzz [Dfr] [zcx] {t r:Tc} {nm:ByteArray} {b:Bool} (h:zyq t nm=some (r,b)) {vt:Value} (hF:∀b,F b→b<W.heap.size) (hg:zcr E F W) (ht:Cl F W StY t.1 [vt]) :
 Calls Tryz.prog 52 #[.agg #[vt,.int .i64 t.2],.string nm] W fun e w'=>∃s c,e= .returned (.tuple #[.agg #[.slice s r.1.length c,.int .i64 r.2],.bool b])∧Kept (fun _=>False) W w'∧Cl F w' StY r.1 [.slice s r.1.length c]:=by
 refine (zgp 52 (t,nm) (r,b) (((qnl t nm).iff _).1 h) hF hg (vs:=[.agg #[vt,.int .i64 t.2],.string nm]) (.cons ⟨[vt,.int .i64 t.2],rfl,.cons ht (.cons rfl .nil)⟩ (.cons rfl .nil))).mono ?_
 rintro e w' ⟨u,rfl,hk,T,hr,_,hn⟩
 obtain ⟨g,hg2,hr'⟩:∃g:Tag,g≠.nil∧RP (T.F F) T w' (.tup [.agg [.slice 9 .str r.1 g,.int .i64 r.2],.one (.bool b)]) u:=by first|exact ⟨.no,(by simp),hr⟩|exact ⟨.own (zay 0 0 0),(by simp),hr⟩
 obtain ⟨vs,rfl,hu⟩:=hr'
 cases hu with
 |cons h0 hu=>cases hu with
  |cons h1 hu =>
   cases hu
   cases h1
   obtain ⟨ws,rfl,hw⟩:=h0
   cases hw with
   |cons k0 hw=>cases hw with
    |cons k1 hw =>
     cases hw
     cases k1
     have hcl:=qga hn hg2 k0
     obtain ⟨s,c,rfl⟩:=zca hcl
     exact ⟨s,c,rfl,hk,hcl⟩
end
end Go.Proofs.YtjolkdjkhekbnaaGreatDoor.Sv
