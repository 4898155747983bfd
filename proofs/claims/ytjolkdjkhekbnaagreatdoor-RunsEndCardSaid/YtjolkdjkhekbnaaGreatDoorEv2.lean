/- Each operation of the evaluator is sound: cuts, lengths, arithmetic, literals, appends. -/
import Derived.Test.YtjolkdjkhekbnaaGreatDoorEv1
import Derived.Laws.Concat
import Derived.Laws.Cover3
set_option linter.unusedVariables false
set_option linter.unusedSimpArgs false
namespace Go.Sv
open Go
section
variable {X:Ctx} {run:Runs X.E} {o:Oper} {σ σ':St}
theorem qcx {lo hi:Int} {n:Nat} (h:zbe lo hi n=true):0≤lo∧lo≤hi∧hi≤(n:Int):=by
 unfold zbe at h
 simpa using h
theorem qec {α:Type} {xs:List α} {lo hi:Int} (h:zbe lo hi xs.length=true):(cut xs lo hi).length=hi.toNat-lo.toNat:=by obtain ⟨h1,h2,h3⟩:=qcx h;unfold cut;rw [List.length_drop,List.length_take];omega
theorem ylo {α:Type} {xs:List α} {lo hi:Int} {i:Nat} {x:α} (h:(cut xs lo hi)[i]? =some x):xs[lo.toNat+i]? =some x:=by
 unfold cut at h;rw [List.getElem?_drop,List.getElem?_take] at h;split at h
 ·exact h
 ·cases h
def ymj (v:Option Value) (n dflt:Int):Prop:=(v=none∧n=dflt)∨∃k,v=some (.int k n)
theorem zea {A:Fr} {a:Act} {w:World} (hi:Inv X A σ a.tmps w) {x:Option Operand} {r:Option Int} (h:zkd σ x=some r) (dflt:Int):
 ymj (x.map a.eval) (r.getD dflt) dflt∧(r=none↔x=none):=by
 cases x with
 |none=>simp only [zkd,Option.some.injEq] at h;subst h;exact ⟨.inl ⟨rfl,rfl⟩,by simp⟩
 |some x=>
  simp only [zkd] at h;split at h
  ·rename_i k n hx;cases h;have hv:=zah hi x;rw [hx] at hv;have hv':a.eval x= .int k n:=hv;exact ⟨.inr ⟨k,by simp [hv']⟩,by simp⟩
  ·cases h
theorem qbf {P:Program} {t e:TypeId} {i:TI} (ht:TIOK P t i) (hd:i.d= .slice e) {ie:TypeInfo} (he:P.info? e=some ie) {lo hi mx:Option Value} {l h:Int} {len cap:Nat} (ad:Option Addr)
 (hl:ymj lo l 0) (hh:ymj hi h len) (hm:mx=none∨((∃k,mx=some (.int k h))∧∃v,hi=some v)) (h0:0≤l) (h1:l≤h) (h2:h≤(len:Int)) (hc:len≤cap) (w:World):
 ∃M,(Instr.sliceAt t (.slice ad len cap) lo hi mx).run P w= .ok (.slice (if M=l.toNat then ad else ad.map (·.add (l.toNat*ie.size))) (h.toNat-l.toNat) (M-l.toNat)) w∧h.toNat≤M∧((mx=none∧M=cap)∨(mx≠none∧M=h.toNat)):=by
 obtain ⟨d,hu,hk⟩:=ht.und;rw [hd] at hk;cases d with
 |slice e'=>
  have hk':e=e':=hk;subst hk';obtain ⟨a,rfl⟩:=Int.eq_ofNat_of_zero_le h0;obtain ⟨b,rfl⟩:=Int.eq_ofNat_of_zero_le (a:=h) (by omega);have k1:a≤b:=by omega
  have k2:b≤len:=by omega
  have k3:b≤cap:=by omega
  simp only [Int.toNat_natCast];rcases hm with rfl|⟨⟨km,rfl⟩,v,hv⟩
  ·refine ⟨cap,?_,by omega,.inl ⟨rfl,rfl⟩⟩;rcases hl with ⟨rfl,e1⟩|⟨kl,rfl⟩<;>rcases hh with ⟨rfl,e2⟩|⟨kh,rfl⟩
   ·have e1':a=0:=by omega
    have e2':b=len:=by omega
    subst e1';subst e2';simp [Instr.sliceAt,Instr.slice,run_underlying hu,Instr.sliceBounds,sizeOf,typeInfo,he]
   ·have e1':a=0:=by omega
    subst e1';simp [Instr.sliceAt,Instr.slice,run_underlying hu,Instr.sliceBounds,Instr.sliceBound,asIntOf,sizeOf,typeInfo,he,k3]
   ·have e2':b=len:=by omega
    subst e2';simp [Instr.sliceAt,Instr.slice,run_underlying hu,Instr.sliceBounds,Instr.sliceBound,asIntOf,sizeOf,typeInfo,he,k1]
   ·simp [Instr.sliceAt,Instr.slice,run_underlying hu,Instr.sliceBounds,Instr.sliceBound,asIntOf,sizeOf,typeInfo,he,k1,k3]
  ·refine ⟨b,?_,Nat.le_refl _,.inr ⟨by simp,rfl⟩⟩;rcases hh with ⟨rfl,e2⟩|⟨kh,rfl⟩
   ·cases hv
   ·rcases hl with ⟨rfl,e1⟩|⟨kl,rfl⟩
    ·have e1':a=0:=by omega
     subst e1';simp [Instr.sliceAt,Instr.slice,run_underlying hu,Instr.sliceBounds,Instr.sliceBound,asIntOf,sizeOf,typeInfo,he,k3]
    ·simp [Instr.sliceAt,Instr.slice,run_underlying hu,Instr.sliceBounds,Instr.sliceBound,asIntOf,sizeOf,typeInfo,he,k1,k3]
 |_=>exact hk.elim
theorem Cl.cut {F:Nat→Prop} {w:World} {e:TypeId} {u:Ty} {xs:List u.den} {ad:Option Addr} {cap M:Nat} {lo hi:Int} (hok:zbe lo hi xs.length=true)
 (h:Cl F w (.slice e u) xs [.slice ad xs.length cap]) (hM:hi.toNat≤M):
 Cl F w (.slice e u) (cut xs lo hi) [.slice (if M=lo.toNat then ad else ad.map (·.add (lo.toNat*u.sz))) (hi.toNat-lo.toNat) (M-lo.toNat)]:=by
 obtain ⟨h0,h1,h2⟩:=qcx hok;rw [Cl] at h ⊢;obtain ⟨A,c,he,hc,hrow⟩:=h;simp only [List.cons.injEq,Value.slice.injEq,and_true,true_and] at he;obtain ⟨rfl,rfl⟩:=he;rw [qec hok];refine ⟨_,_,rfl,by omega,?_⟩;by_cases hz:Sv.cut xs lo hi=[]
 ·exact .inl hz
 ·right;have hlen:=qec hok;have hpos:0<(Sv.cut xs lo hi).length:=List.length_pos_iff.2 hz;have hne:¬M=lo.toNat:=by omega
  rcases hrow with rfl|⟨b,rfl,hF,hrow⟩
  ·simp [Sv.cut] at hpos
  ·refine ⟨b.add (lo.toNat*u.sz),by simp [hne],?_,fun i x hx=> ?_⟩
   ·have:(b.add (lo.toNat*u.sz)).block=b.block:=by unfold Addr.add;split<;>rfl
    rw [this];exact hF
   ·obtain ⟨ds,hds,hcell⟩:=hrow _ _ (ylo hx);refine ⟨ds,hds,fun j v hj=> ?_⟩;have h3:=hcell j v hj;rw [Nat.add_mul,Nat.add_assoc] at h3;have hdl:=hds.length;have hp:=Ty.zpw u;refine ydf w b _ _ v h3 ?_;have hx0:=qib h3;obtain ⟨bb,bo,bs⟩:=b;by_cases hm:lo.toNat*u.sz=0
    ·simp only [hm,Nat.zero_add] at hx0 ⊢;by_cases hij:i*u.sz+j=0
     ·simpa [hij] using hx0
     ·obtain ⟨ds0,hd0,hc0⟩:=hrow 0 (xs[0]'(by have:=List.getElem?_eq_some_iff.1 (ylo hx);omega)) (List.getElem?_eq_getElem _);have:=hd0.length;have:=qib (hc0 0 (ds0[0]'(by omega)) (by simp))
      simpa [Addr.add] using this
    ·simp [Addr.add,hm]
theorem ytr {A:Fr} {tm:Array Value} {w:World} (hi:Inv X A σ tm w) {e:TypeId} {u:Ty} {xs:List u.den} {g:Tag} {v:Value} (hv:RC (X.F A) A w (.slice e u xs g) v):
 ∃A' ad cap,Inv X A' (σ.release g.names) tm w∧v= .slice ad xs.length cap∧Cl (X.F A') w (.slice e u) xs [.slice ad xs.length cap]∧xs.length≤cap∧(g= .exact→cap=xs.length):=by
 have key:∀{F:Nat→Prop},Cl F w (.slice e u) xs [v]→∃ad cap,v= .slice ad xs.length cap∧xs.length≤cap:=fun h=>by rw [Cl] at h;obtain ⟨A,c,he,hc,_⟩:=h;simp only [List.cons.injEq,and_true] at he;exact ⟨A,c,he,hc⟩
 cases g with
 |no=>obtain ⟨ad,cap,rfl,hc⟩:=key hv;exact ⟨A,ad,cap,hi,rfl,hv,hc,by simp⟩
 |nil=>obtain ⟨rfl,b,rfl⟩:=hv;exact ⟨A,b,0,hi,rfl,by rw [Cl];exact ⟨b,0,rfl,Nat.le_refl _,.inl rfl⟩,Nat.le_refl _,by simp⟩
 |exact=>obtain ⟨hv,b,rfl⟩:=hv;exact ⟨A,b,_,hi,rfl,hv,Nat.le_refl _,fun _=>rfl⟩
 |own n=>
  obtain ⟨A',h1,_,h2⟩:=hi.release [n];have h2':A'=A.drop [n]:=by rcases h2 with ⟨h,_⟩|h;cases h;exact h
  subst h2';have hp:Cl (X.F (A.drop [n])) w (.slice e u) xs [v]:=by
   rcases hv with ⟨_,rfl,a,rfl⟩|⟨g,k,hg,ho⟩
   ·rw [Cl];exact ⟨a,0,rfl,Nat.le_refl _,.inl rfl⟩
   ·exact (ho.step (Step.drop A [n] X.F0 w) rfl).plain (hi.good.notF hg (List.mem_singleton.2 rfl))
  obtain ⟨ad,cap,rfl,hc⟩:=key hp;exact ⟨_,ad,cap,h1,rfl,hp,hc,by simp⟩
theorem qmm {t:TypeId} {x:Operand} {lo hi mx:Option Operand} {i:TI} (hE:zgk X.P X.E) (hL:quu X.P X.E) (ho:o.op= .slice t x lo hi mx) (hd:∀d,o.dst=some d→d<X.n) (hti:X.E.ti t=some i)
 (h:qeq X.E i σ o.dst (σ.ev x) lo hi mx some=some σ'):zbm X o σ σ':=by
 have ht:=hE.ti t i hti;unfold qeq at h;split at h
 ·rename_i l0 h0 m0 hl0 hh0 hm0;split at h
  ·
   rename_i s hx;cases hid:i.d<;>cases hmx:m0<;>simp only [hid,hmx] at h<;>try (cases h;done)
   subst hmx;cases hok:zbe (l0.getD 0) (h0.getD (s.size:Int)) s.size with
   |false=>simp [hok] at h
   |true=>
    simp only [hok,cond_true,Option.some.injEq] at h;subst h;obtain ⟨q0,q1,q2⟩:=qcx hok;refine .value hd fun A a w hi'=> ?_
    have hv:=zah hi' x;rw [hx] at hv;have hv':a.eval x= .string s:=hv;have b1:=(zea hi' hl0 0).1;have b2:=(zea hi' hh0 (s.size:Int)).1;have b3:mx=none:=(zea hi' hm0 0).2.1 rfl;generalize l0.getD 0=l at*;generalize h0.getD (s.size:Int)=hh at*;obtain ⟨d,hu,hk⟩:=ht.und;rw [hid] at hk;refine ⟨.string (s.extract l.toNat hh.toNat),?_,rfl⟩;cases d<;>try exact hk.elim
    obtain ⟨ln,rfl⟩:=Int.eq_ofNat_of_zero_le q0;obtain ⟨hn,rfl⟩:=Int.eq_ofNat_of_zero_le (a:=hh) (by omega);have k1:ln≤hn:=by omega
    have k2:hn≤s.size:=by omega
    simp only [Int.toNat_natCast];have e1:(execOp a.eval o).run X.P w=((Instr.sliceAt t (.string s) (lo.map a.eval) (hi.map a.eval) (mx.map a.eval)).run X.P w).andThen fun v w'=>.ok (.value v) w':=by simp [execOp,ho,hv']
    rw [e1,b3];rcases b1 with ⟨e1,e3⟩|⟨kl,e1⟩<;>rcases b2 with ⟨e2,e4⟩|⟨kh,e2⟩<;>rw [e1,e2]
    ·have e3':ln=0:=by omega
     have e4':hn=s.size:=by omega
     subst e3';subst e4';simp [Instr.sliceAt,Instr.slice,run_underlying hu,Instr.sliceBounds]
    ·have e3':ln=0:=by omega
     subst e3';simp [Instr.sliceAt,Instr.slice,run_underlying hu,Instr.sliceBounds,Instr.sliceBound,asIntOf,k2]
    ·have e4':hn=s.size:=by omega
     subst e4';simp [Instr.sliceAt,Instr.slice,run_underlying hu,Instr.sliceBounds,Instr.sliceBound,asIntOf,k1]
    ·simp [Instr.sliceAt,Instr.slice,run_underlying hu,Instr.sliceBounds,Instr.sliceBound,asIntOf,k1,k2]
  ·rename_i e u xs g hx;simp only at h;by_cases hty:i.ty=some (.slice e u)
   ·simp only [hty,if_true] at h;obtain ⟨e',he',ie,hie,hsz⟩:=hL.row t i e u hti hty;have main:∀(l hh:Int) (tag:Tag) (M0:Prop),zbe l hh xs.length=true→σ'=(σ.release g.names).put o.dst (.sv (.one (.slice e u (cut xs l hh) tag)))→
     (tag= .nil→g= .nil)→(∀(A:Fr) (a:Act) (w:World),Inv X A σ a.tmps w→ymj (lo.map a.eval) l 0∧ymj (hi.map a.eval) hh xs.length∧(mx.map a.eval=none∨((∃k,mx.map a.eval=some (.int k hh))∧∃v,hi.map a.eval=some v)))→
     (tag= .nil∨tag= .no∨(tag= .exact∧(mx≠none∨(g= .exact∧hh=xs.length))))→zbm X o σ σ':=by
     intro l hh tag _ hok hσ hnil hb htag A a w hi0 hdef next Q hn
     subst hσ;obtain ⟨q0,q1,q2⟩:=qcx hok;have hx0:=zah hi0 x;rw [hx] at hx0;obtain ⟨A',ad,cap,hi',he,hc,hcap,hex⟩:=ytr hi0 hx0;obtain ⟨b1,b2,b3⟩:=hb A a w hi0;obtain ⟨M,hr,hM,hMc⟩:=qbf ht he' hie ad b1 b2 b3 q0 q1 q2 hcap w;have hcut:=Cl.cut hok hc hM;rw [hsz] at hr;have hlen:=qec hok;refine znr (v:=.slice (if M=l.toNat then ad else ad.map (·.add (l.toNat*u.sz))) (hh.toNat-l.toNat) (M-l.toNat)) (w':=w) ?_ (hn A' _ _ (hi'.put hd fun _=> ?_) (by rw [put_defers];exact hdef))
     ·simp [execOp,ho,he,hr]
     ·rcases htag with rfl|rfl|⟨rfl,htag⟩
      ·have:=hnil rfl;subst this;obtain ⟨rfl,b,hb⟩:=hx0;rw [he] at hb;simp only [Value.slice.injEq] at hb;obtain ⟨_,_,rfl⟩:=hb;have h0:hh.toNat=0:=by simp at q2;omega
       refine ⟨by simp [cut],(if M=l.toNat then ad else ad.map (·.add (l.toNat*u.sz))),?_⟩
       have hM0:M=0:=by rcases hMc with ⟨_,h⟩|⟨_,h⟩<;>omega
       rw [h0,hM0];simp
      ·exact hcut
      ·refine ⟨hcut,(if M=l.toNat then ad else ad.map (·.add (l.toNat*u.sz))),?_⟩
       rw [hlen]
       congr 1
       rcases hMc with ⟨h1,h2⟩|⟨h1,h2⟩
       ·rcases htag with h3|⟨h3,h4⟩
        ·exact absurd (by simpa using h1) h3
        ·have:=hex h3;omega
       ·omega
    generalize hlv:l0.getD 0=l at h;generalize hhv:h0.getD (xs.length:Int)=hh at h;cases m0 with
    |none=>
     simp only at h;cases hok:zbe l hh xs.length with
     |false=>simp [hok] at h
     |true=>
      simp only [hok,cond_true,Option.some.injEq] at h;refine main l hh _ True hok h.symm (by cases g<;>cases h0<;>simp) (fun A a w hi0=>⟨hlv▸(zea hi0 hl0 0).1,hhv▸(zea hi0 hh0 _).1,.inl ?_⟩) ?_
      ·simp [(zea hi0 hm0 0).2.1 rfl]
      ·cases g<;>cases h0<;>simp;exact .inr (by simpa using hhv.symm)
    |some m=>
     simp only at h;cases h0 with
     |none=>cases h
     |some hv0=>
      simp only at h;cases hok:zbe l hh xs.length with
      |false=>simp [hok] at h
      |true=>
       by_cases hm:m=hh
       ·simp only [hok,hm,decide_true,Bool.and_true,cond_true,Option.some.injEq] at h;have hmx:mx≠none:=fun e=>by subst e;simp [zkd] at hm0
        have hhi:hi≠none:=fun e=>by subst e;simp [zkd] at hh0
        refine main l hh .exact True hok h.symm (by simp) (fun A a w hi0=>⟨hlv▸(zea hi0 hl0 0).1,hhv▸(zea hi0 hh0 _).1,.inr ⟨?_,?_⟩⟩) (.inr (.inr ⟨rfl,.inl hmx⟩))
        ·rcases (zea hi0 hm0 0).1 with ⟨e1,_⟩|⟨k,e1⟩
         ·exact absurd (by simpa using e1) hmx
         ·exact ⟨k,by rw [e1];simp [hm]⟩
        ·cases hi with
         |none=>exact absurd rfl hhi
         |some y=>exact ⟨_,rfl⟩
       ·simp [hok,hm] at h
   ·simp only [hty,if_false] at h;cases h
  ·rename_i gg hx;split at h
   ·rename_i e u n n' e' hgl hdd;split at h
    ·rename_i hne;obtain ⟨rfl,rfl⟩:=hne;cases h;refine .value hd fun A a w hi'=> ?_
     have hv:=zah hi' x;rw [hx] at hv;have hv':a.eval x= .pointer (some ⟨gg,0,none⟩):=hv;have c1:=(zea hi' hl0 0).2.1 rfl;have c2:=(zea hi' hh0 0).2.1 rfl;have c3:=(zea hi' hm0 0).2.1 rfl;subst c1;subst c2;subst c3;obtain ⟨d,hu,hk⟩:=ht.und;rw [hdd] at hk;obtain ⟨g1,g2⟩:=hi'.glob.1 gg _ _ _ hgl;cases d<;>try exact hk.elim
     obtain ⟨rfl,rfl⟩:=hk;refine ⟨.slice (some ⟨gg,0,none⟩) n' n',?_,g2,some ⟨gg,0,none⟩,by rw [g1]⟩;obtain ⟨ie,hie⟩:=hL.arr t i n' e' hti hdd;simp [execOp,ho,hv',Instr.sliceAt,run_underlying hu,Instr.sureAddr,Instr.sliceBounds,sizeOf,typeInfo,hie,Addr.add]
    ·cases h
   ·cases h
  ·cases h
 ·cases h
end
section
variable {X:Ctx} {run:Runs X.E} {o:Oper} {σ σ':St}
structure Src (F:Nat→Prop) (w:World) (u:Ty) (ys:List u.den) (a:Addr) (news:List Value):Prop where
 len:news.length=ys.length*u.sz
 cell:∀j v,news[j]? =some v→w.cell? (a.add j)=some v
 one:∀v∈news,v.oneCell'=true
 el:∀i x,ys[i]? =some x→∃ds,Cl F w u x ds∧∀j z,ds[j]? =some z→news[i*u.sz+j]? =some z
theorem yst {F:Nat→Prop} {w:World} {u:Ty} {ys:List u.den} {a:Addr}
 (h:∀i x,ys[i]? =some x→∃ds,Cl F w u x ds∧∀j v,ds[j]? =some v→w.cell? (a.add (i*u.sz+j))=some v):∃news,Src F w u ys a news:=by
 have hp:=Ty.zpw u;have hall:∀k,k<ys.length*u.sz→∃v,w.cell? (a.add k)=some v∧v.oneCell'=true:=fun k hk=>by
  have hi:k/u.sz<ys.length:=Nat.div_lt_of_lt_mul (by rw [Nat.mul_comm];exact hk);obtain ⟨ds,hd,hc⟩:=h (k/u.sz) _ (List.getElem?_eq_getElem hi);have hm:k % u.sz<ds.length:=by rw [hd.length];exact Nat.mod_lt _ hp
  have:=hc (k % u.sz) _ (List.getElem?_eq_getElem hm);rw [show k/u.sz*u.sz+k % u.sz=k by rw [Nat.mul_comm];exact Nat.div_add_mod k u.sz] at this;exact ⟨_,this,hd.one _ (List.getElem_mem hm)⟩
 refine ⟨(List.range (ys.length*u.sz)).map fun k=>(w.cell? (a.add k)).getD undef,by simp,fun j v hj=> ?_,fun v hv=> ?_,fun i x hi=> ?_⟩
 ·obtain ⟨hlt,rfl⟩:=List.getElem?_eq_some_iff.1 hj;obtain ⟨v,h1,h2⟩:=hall j (by simpa using hlt);simp [h1]
 ·obtain ⟨k,hk,rfl⟩:=List.mem_map.1 hv;obtain ⟨v,h1,h2⟩:=hall k (by simpa using hk);rw [h1];exact h2
 ·obtain ⟨ds,hd,hc⟩:=h i x hi;refine ⟨ds,hd,fun j z hj=> ?_⟩;have hlt:=(List.getElem?_eq_some_iff.1 hj).1;rw [hd.length] at hlt;have hi':=(List.getElem?_eq_some_iff.1 hi).1;have hk:i*u.sz+j<ys.length*u.sz:=by have:(i+1)*u.sz≤ys.length*u.sz:=Nat.mul_le_mul_right _ hi';rw [Nat.add_mul] at this;omega
  rw [List.getElem?_map,List.getElem?_eq_getElem (by simpa using hk)];simp [hc j z hj]
theorem ymz {A:Fr} {tm:Array Value} {w:World} (hi:Inv X A σ tm w) {e:TypeId} {u:Ty} {ys:List u.den} {g:Tag} {v:Value} (hv:RC (X.F A) A w (.slice e u ys g) v):
 ∃ad cap,v= .slice ad ys.length cap∧ys.length≤cap∧(ys=[]∨∃a news,ad=some a∧Src (X.F A) w u ys a news):=by
 have ofCl:Cl (X.F A) w (.slice e u) ys [v]→∃ad cap,v= .slice ad ys.length cap∧ys.length≤cap∧(ys=[]∨∃a news,ad=some a∧Src (X.F A) w u ys a news):=fun h=>by
  rw [Cl] at h;obtain ⟨ad,cap,he,hc,hr⟩:=h;simp only [List.cons.injEq,and_true] at he;refine ⟨ad,cap,he,hc,?_⟩;rcases hr with hr|⟨a,rfl,_,hr⟩
  ·exact .inl hr
  ·obtain ⟨news,hn⟩:=yst hr;exact .inr ⟨a,news,rfl,hn⟩
 cases g with
 |no=>exact ofCl hv
 |exact=>exact ofCl hv.1
 |nil=>obtain ⟨rfl,a,rfl⟩:=hv;exact ⟨a,0,rfl,Nat.le_refl _,.inl rfl⟩
 |own n=>
  rcases hv with ⟨_,rfl,a,rfl⟩|⟨b,l,hb,hl,cap,cur,rfl,hh,h1,h2,h3,h4⟩
  ·exact ⟨a,0,rfl,Nat.le_refl _,.inl rfl⟩
  ·refine ⟨_,cap,rfl,h1,.inr ⟨⟨b,0,none⟩,?_⟩⟩;obtain ⟨news,hn⟩:=yst (F:=X.F A) (w:=w) (u:=u) (ys:=ys) (a:=⟨b,0,none⟩) (fun i x hx=>by obtain ⟨ds,hd,hc⟩:=h4 i x hx;refine ⟨ds,hd,fun j v hj=> ?_⟩;rw [zjf,cell_of_block hh];simpa using hc j v hj);exact ⟨news,rfl,hn⟩
theorem qxj {n bytes:Nat} (h:zai n bytes=true):n*bytes≤140737488355328:=by simpa [zai] using h
theorem ygo {F:Nat→Prop} {w w':World} {e:TypeId} {u:Ty} {zs:List u.den} {cells:List Value} {rest:Array Value} {cap:Nat} (hcap:zs.length≤cap) (hcm:cap≤maxLen)
 (hlen:cells.length=zs.length*u.sz) (hrest:rest.size=(cap-zs.length)*u.sz) (hel:∀i x,zs[i]? =some x→∃ds,Cl F w' u x ds∧∀j z,ds[j]? =some z→cells[i*u.sz+j]? =some z)
 (hh:w'.heap[w.heap.size]? =some (.cells (cells.toArray++rest) e (0,0))):
 OwnAt F w' e u zs w.heap.size zs.length (.slice (some ⟨w.heap.size,0,none⟩) zs.length cap):=by
 refine ⟨rfl,cap,_,rfl,hh,hcap,hcm,?_,fun i x hx=> ?_⟩
 ·rw [Array.size_append,List.size_toArray,hlen,hrest,←Nat.add_mul];congr 1;omega
 ·obtain ⟨ds,hd,hc⟩:=hel i x hx;refine ⟨ds,hd,fun j z hj=> ?_⟩;have:=hc j z hj;rw [Array.getElem?_append_left (by simpa using (List.getElem?_eq_some_iff.1 this).1)]
  simpa using this
theorem ywu {F:Nat→Prop} {w:World} {u:Ty} {xs ys:List u.den} {olds news:List Value} (ho:olds.length=xs.length*u.sz)
 (h1:∀i x,xs[i]? =some x→∃ds,Cl F w u x ds∧∀j z,ds[j]? =some z→olds[i*u.sz+j]? =some z)
 (h2:∀i x,ys[i]? =some x→∃ds,Cl F w u x ds∧∀j z,ds[j]? =some z→news[i*u.sz+j]? =some z):
 ∀i x,(xs++ys)[i]? =some x→∃ds,Cl F w u x ds∧∀j z,ds[j]? =some z→(olds++news)[i*u.sz+j]? =some z:=by
 intro i x hx;by_cases hi:i<xs.length
 ·rw [List.getElem?_append_left hi] at hx;obtain ⟨ds,hd,hc⟩:=h1 i x hx;refine ⟨ds,hd,fun j z hj=> ?_⟩;have:=hc j z hj;rw [List.getElem?_append_left (List.getElem?_eq_some_iff.1 this).1];exact this
 ·rw [List.getElem?_append_right (by omega)] at hx;obtain ⟨ds,hd,hc⟩:=h2 _ x hx;refine ⟨ds,hd,fun j z hj=> ?_⟩;have h3:=hc j z hj;have:xs.length*u.sz≤i*u.sz:=Nat.mul_le_mul_right _ (by omega);rw [List.getElem?_append_right (by omega),ho,show i*u.sz+j-xs.length*u.sz=(i-xs.length)*u.sz+j by rw [Nat.sub_mul];omega];exact h3
theorem qux (z:Array Value) (n:Nat):(Builtin.zeroCells z n).size=n*z.size:=by simp [Builtin.zeroCells]
theorem qup {P:Program} {t ty e:TypeId} {ti:TypeInfo} (ht:P.underlying t=some (.slice e)) (hi:P.info? e=some ti) (base ad:Option Addr) (n c cx:Nat) (hc:n≤c) (w:World):
 (Builtin.append_ #[t,t] ty #[.slice base n c,.slice ad 0 cx]).run P w= .ok (.slice base n c) w:=by
 cases base<;>cases ad<;>simp [Builtin.append_,run_underlying ht,sizeOf,typeInfo,hi,Builtin.lenOf,hc,Builtin.firstCells,loadCells,loadCellsFrom,storeCells]
theorem yig {P:Program} {t e:TypeId} (ty:TypeId) {ti:TypeInfo} {z:Value} (ht:P.underlying t=some (.slice e)) (hi:P.info? e=some ti) (hz:ti.zero=some z) (base:Option Addr) (n c:Nat) (olds:List Value) (hlo:olds.length=n*ti.size)
 (h0:base=none→n=0∧c=0) (w:World) (holds:∀b,base=some b→∀j v,olds[j]? =some v→w.cell? (b.add j)=some v)
 (a:Addr) (m cx:Nat) (news:List Value) (hl:news.length=m*ti.size) (hnews:∀j v,news[j]? =some v→w.cell? (a.add j)=some v) (hm:0<m) (hg:c<n+m) (hmax:n+m≤maxLen) (hroom:(n+m)*ti.bytes≤140737488355328):
 (Builtin.append_ #[t,t] ty #[.slice base n c,.slice (some a) m cx]).run P w=
  .ok (.slice (some ⟨w.heap.size,0,none⟩) (n+m) (grownCap w (n+m) c e)) (w.drew.alloc (.cells ((olds++news).toArray++Builtin.zeroCells z.cells (grownCap w (n+m) c e-(n+m))) e)):=by
 have h63:n+m≤9223372036854775807:=by simp only [maxLen] at hmax;omega
 cases base with
 |none=>
  obtain ⟨rfl,rfl⟩:=h0 rfl;have:olds=[]:=List.eq_nil_of_length_eq_zero (by simpa using hlo);subst this;have:=run_append_nil (P:=P) w t ty e ti z ht hi hz a m cx news hl hnews hm (by omega) (by simp only [Nat.zero_add] at hroom;omega)
  simpa using this
 |some b=>
  have:=run_append_grow (P:=P) w t ty e ti z ht hi hz b n c olds hlo (holds b rfl) a m cx news hl hnews hg (by omega) (growslice_fits hg hroom)
  simpa using this
theorem zte {A:Fr} {w w':World} {l:List Nat} {n g len:Nat} (hkeep:∀b,¬X.F A b→b<w.heap.size→w'.heap[b]? =w.heap[b]?) (hg:X.F A g∨w.heap.size≤g):
 Step (X.F A) (X.F ((A.drop l).qeg n (some (g,len)))) w w':=
 ⟨hkeep,fun b hb=>by
  rcases hb with hb|hb|⟨m,k,hb⟩
  ·exact .inl (.inl hb)
  ·exact .inl (.inr (.inl hb))
  ·simp only [Fr.qeg] at hb;split at hb
   ·cases hb;exact hg
   ·exact .inl (Fr.yww (.inr (.inr ⟨m,k,hb⟩)))⟩
theorem qtn {A:Fr} {tm:Array Value} {w:World} (h:Inv X A σ tm w) {l:List Nat} {n:Nat} (hn:n∈l) {e:TypeId} {u:Ty} {zs:List u.den} {cells:List Value} {rest:Array Value} {cap:Nat} (hcap:zs.length≤cap) (hcm:cap≤maxLen)
 (hlen:cells.length=zs.length*u.sz) (hrest:rest.size=(cap-zs.length)*u.sz) (hel:∀i x,zs[i]? =some x→∃ds,Cl (X.F A) w u x ds∧∀j z,ds[j]? =some z→cells[i*u.sz+j]? =some z) {w0:World} (hw:w0=w∨w0=w.drew):
 ∃A',Inv X A' (σ.kill l) tm (w0.alloc (.cells (cells.toArray++rest) e))∧RC (X.F A') A' (w0.alloc (.cells (cells.toArray++rest) e)) (.slice e u zs (.own n)) (.slice (some ⟨w.heap.size,0,none⟩) zs.length cap):=by
 have hs:w0.heap=w.heap:=by rcases hw with rfl|rfl<;>rfl
 have hlt:∀k,k<w.heap.size→(w0.alloc (.cells (cells.toArray++rest) e)).heap[k]? =w.heap[k]? :=fun k hk=>by rw [zbt w0 _ k (by rw [hs];exact hk),hs]
 have hk:Kept X.G X.W (w0.alloc (.cells (cells.toArray++rest) e)):=by
  rcases hw with rfl|rfl
  ·exact h.kept.alloc _
  ·exact h.kept.drew.alloc _
 have hsz:(w0.alloc (.cells (cells.toArray++rest) e)).heap.size=w.heap.size+1:=by rw [World.size_alloc,hs]
 have S:Step (X.F A) (X.F ((A.drop l).qeg n (some (w.heap.size,zs.length)))) w (w0.alloc (.cells (cells.toArray++rest) e)):=zte (fun b _ hb=>hlt b hb) (.inr (Nat.le_refl _));refine ⟨_,h.ygt (g:=w.heap.size) (len:=zs.length) hn (fun b hb _=>hlt b hb) hk ⟨.inl h.kept.size,by omega⟩ (by omega) (.inl (Nat.le_refl _)),.inr ⟨w.heap.size,zs.length,by simp [Fr.qeg],?_⟩⟩;refine ygo hcap hcm hlen hrest (fun i x hx=> ?_) (by have:=zkz w0 (.cells (cells.toArray++rest) e);rw [hs] at this;exact this);obtain ⟨ds,hd,hc⟩:=hel i x hx;exact ⟨ds,hd.step S,hc⟩
theorem xka {A:Fr} {tm:Array Value} {w:World} (hi:Inv X A σ tm w) {e:TypeId} {u:Ty} {xs:List u.den} {g:Tag} {v:Value} (hv:RC (X.F A) A w (.slice e u xs g) v) (hg:g≠.no):
 ∃(ad:Option Addr) (cap:Nat) (olds:List Value),v= .slice ad xs.length cap∧xs.length≤cap∧olds.length=xs.length*u.sz∧(ad=none→xs.length=0∧cap=0)∧(∀b,ad=some b→∀j v,olds[j]? =some v→w.cell? (b.add j)=some v)∧
  ∀i x,xs[i]? =some x→∃ds,Cl (X.F A) w u x ds∧∀j z,ds[j]? =some z→olds[i*u.sz+j]? =some z:=by
 obtain ⟨ad,cap,rfl,hc,hs⟩:=ymz hi hv;have h0:ad=none→xs.length=0∧cap=0:=fun e=>by
  subst e;have:xs=[]:=by
   rcases hs with hs|⟨a,_,h,_⟩
   ·exact hs
   ·cases h
  subst this;refine ⟨rfl,?_⟩;cases g with
  |no=>exact absurd rfl hg
  |nil=>obtain ⟨_,a,h⟩:=hv;simp at h;exact h.2
  |exact=>obtain ⟨_,a,h⟩:=hv;simp at h;exact h.2
  |own n=>
   rcases hv with ⟨_,_,a,h⟩|⟨b,l,_,_,cap',cur,h,_⟩
   ·simp at h;exact h.2
   ·simp at h
 rcases hs with rfl|⟨a,olds,rfl,hs⟩
 ·exact ⟨ad,cap,[],rfl,hc,by simp,h0,fun _ _ j v h=>by simp at h,fun i x h=>by simp at h⟩
 ·exact ⟨_,cap,olds,rfl,hc,hs.len,h0,fun b hb j v hj=>by cases hb;exact hs.cell j v hj,hs.el⟩
theorem qyt {P:Program} {e:TypeId} {ie:TI} (h:TIOK P e ie):∃ti z,P.info? e=some ti∧ti.size=ie.size∧ti.bytes=ie.bytes∧ti.zero=some z∧z.cells.size=ie.size:=by obtain ⟨ti,h1,h2,h3,z,h4,h5,_⟩:=h.info;exact ⟨ti,z,h1,h2,h3,h4,h5⟩
theorem quq {ty tt e:TypeId} {u:Ty} {i ie:TI} {xs ys:List u.den} {g g':Tag} {A:Fr} {tm:Array Value} {w:World} {vs vx:Value} {l:List Nat} {t:Nat} (hty:TIOK X.P ty i) (hd:i.d= .slice e) (he:TIOK X.P e ie) (hsz:ie.size=u.sz)
 (hi:Inv X A σ tm w) (hS:RC (X.F A) A w (.slice e u xs g) vs) (hX:RC (X.F A) A w (.slice e u ys g') vx) (hg:g≠.no) (hroom:zai (xs.length+ys.length) ie.bytes=true) (ht:t∈l) (hl:∀n,g= .own n→n∈l):
 ∃v' w',(Builtin.append_ #[ty,ty] tt #[vs,vx]).run X.P w= .ok v' w'∧
  (g= .exact→∃A',Inv X A' σ tm w'∧RC (X.F A') A' w' (.slice e u (xs++ys) .no) v')∧
  (g≠.exact→∃A',Inv X A' (σ.kill l) tm w'∧RC (X.F A') A' w' (.slice e u (xs++ys) (.own t)) v'):=by
 obtain ⟨dd,hund,hk⟩:=hty.und;rw [hd] at hk;cases dd<;>try exact hk.elim
 have hk':e=_:=hk;subst hk';obtain ⟨ti,z,hti,h1,h2,hz,hzs⟩:=qyt he;have hpos:=Ty.zpw u;have hbp:=he.pos (by omega);have hroom':=qxj hroom;have hmax:xs.length+ys.length≤maxLen:=by have:(xs.length+ys.length)*1≤(xs.length+ys.length)*ie.bytes:=Nat.mul_le_mul_left _ hbp;simp only [maxLen];omega
 obtain ⟨ad,cap,olds,rfl,hcap,hol,h0,holds,hoel⟩:=xka hi hS hg;obtain ⟨ax,cx,rfl,hcx,hsx⟩:=ymz hi hX;by_cases hys:ys=[]
 ·
  subst hys;refine ⟨_,w,qup hund hti ad ax xs.length cap cx hcap w,fun hge=> ?_,fun hge=> ?_⟩
  ·subst hge;refine ⟨A,hi,?_⟩;rw [List.append_nil];exact hS.1
  ·rw [List.append_nil];have nilc:xs=[]→(∃b,Value.slice ad xs.length cap= .slice b 0 0)→∃A',Inv X A' (σ.kill l) tm w∧RC (X.F A') A' w (.slice e u xs (.own t)) (.slice ad xs.length cap):=fun hx hb=>by
    obtain ⟨A',h3,h4⟩:=hi.kill l;refine ⟨A',h3,.inl ⟨?_,hx,hb⟩⟩;rcases h4 with ⟨h4,_⟩|rfl
    ·rw [h4] at ht;cases ht
    ·simp [Fr.drop,mem_iff.2 ht]
   cases g with
   |no=>exact absurd rfl hg
   |exact=>exact absurd rfl hge
   |nil=>exact nilc hS.1 hS.2
   |own n=>
    rcases hS with ⟨_,hx,hb⟩|⟨b,len,hb,hown⟩
    ·exact nilc hx hb
    ·have hn:=hl n rfl;refine ⟨_,hi.ygt (g:=b) (len:=len) ht (fun _ _ _=>rfl) hi.kept ⟨(hi.good.tgm n b len hb).1,(hi.good.tgm n b len hb).2⟩ (Nat.le_refl _) (.inr ⟨n,len,hb,hn⟩),.inr ⟨b,len,by simp [Fr.qeg],?_⟩⟩;exact hown.step (zte (fun _ _ _=>rfl) (.inl (.inr (.inr ⟨n,len,hb⟩)))) rfl
 ·rcases hsx with hsx|⟨a,news,rfl,hsrc⟩
  ·exact absurd hsx hys
  have hm:0<ys.length:=List.length_pos_iff.2 hys;have hnl:news.length=ys.length*ti.size:=by rw [hsrc.len,h1,hsz]
  have hcl:(olds++news).length=(xs++ys).length*u.sz:=by rw [List.length_append,hol,hsrc.len,List.length_append,Nat.add_mul]
  have hel:=ywu hol hoel hsrc.el;by_cases hfit:xs.length+ys.length≤cap
  ·
   cases g with
   |no=>exact absurd rfl hg
   |nil=>obtain ⟨rfl,b,hb⟩:=hS;simp at hb;simp only [List.length_nil] at hfit;omega
   |exact=>obtain ⟨_,b,hb⟩:=hS;simp at hb;omega
   |own n=>
    rcases hS with ⟨_,rfl,b,hb⟩|⟨b,len,hb,hlen,cap',cur,hv,hh,q1,q2,q3,q4⟩
    ·simp at hb;simp only [List.length_nil] at hfit;omega
    ·simp only [Value.slice.injEq] at hv;obtain ⟨rfl,_,rfl⟩:=hv;subst hlen;have hlc:xs.length*ti.size+news.length≤cur.size:=by rw [hnl,q3,h1,hsz,←Nat.add_mul];exact Nat.mul_le_mul_right _ hfit
     have hr:=run_append_room (P:=X.P) w ty tt e ti hund hti b xs.length cap cur hh a ys.length cx news hnl hsrc.cell hsrc.one hfit hlc;refine ⟨_,_,hr,fun hge=>by simp at hge,fun _=> ?_⟩;have hn:=hl n rfl;have hF:X.F A b:=.inr (.inr ⟨n,_,hb⟩);have hmine:=hi.good.tgm n b _ hb;have hother:∀k,k≠b→(w.setRow b (cur.toList.take (xs.length*ti.size)++news++cur.toList.drop (xs.length*ti.size+news.length)).toArray).heap[k]? =w.heap[k]? :=fun k hk=>setRow_other w b k _ hk
     have S:=zte (X:=X) (A:=A) (l:=l) (n:=t) (g:=b) (len:=(xs++ys).length) (fun k hk _=>hother k fun e=>hk (e▸hF)) (.inl hF);refine ⟨_,hi.ygt (g:=b) (len:=(xs++ys).length) ht (fun k hk hq=>hother k fun e=> ?_) (hi.kept.setRow hmine.1 _) ⟨hmine.1,by rw [size_setRow];exact hmine.2⟩ (by rw [size_setRow];exact Nat.le_refl _) (.inr ⟨n,_,hb,hn⟩),.inr ⟨b,(xs++ys).length,by simp [Fr.qeg],?_⟩⟩
     ·subst e;rcases hq with hq|⟨d,hq⟩|⟨m,k',hq,hml⟩
      ·exact hq hF
      ·exact hi.good.bt d n k _ hq hb
      ·exact hml (hi.good.tgi n m k _ _ hb hq▸hn)
     ·refine ⟨rfl,cap,_,by simp,setRow_heap w b cur _ e (0,0) hh,by simpa using hfit,q2,?_,fun i x hx=> ?_⟩
      ·simp only [List.size_toArray,List.length_append,List.length_take,List.length_drop,Array.length_toList];omega
      ·have e1:olds=cur.toList.take (xs.length*ti.size):=by
        refine List.ext_getElem? fun k=> ?_
        by_cases hk:k<xs.length*u.sz
        ·have h3:k<olds.length:=by omega
         have h4:=holds _ rfl k _ (List.getElem?_eq_getElem h3);rw [zjf,cell_of_block hh,Nat.zero_add] at h4;rw [List.getElem?_eq_getElem h3,List.getElem?_take,if_pos (by rw [h1,hsz];exact hk)]
         simpa using h4.symm
        ·rw [List.getElem?_eq_none (by omega),List.getElem?_eq_none (by rw [List.length_take,h1,hsz];omega)]
       obtain ⟨ds,hd,hc⟩:=hel i x hx;refine ⟨ds,hd.step S,fun j z hj=> ?_⟩;have h5:=hc j z hj;rw [←e1,List.getElem?_toArray,List.getElem?_append_left (List.getElem?_eq_some_iff.1 h5).1];exact h5
  ·have hr:=yig (tt) hund hti hz ad xs.length cap olds (by rw [h1,hsz];exact hol) h0 w holds a ys.length cx news hnl hsrc.cell hm (by omega) hmax (by rw [h2];exact hroom');have hge:=grownCap_ge w (xs.length+ys.length) cap e;have hle:=grownCap_le_maxLen w (xs.length+ys.length) cap e hmax;have hrest:(Builtin.zeroCells z.cells (grownCap w (xs.length+ys.length) cap e-(xs.length+ys.length))).size=(grownCap w (xs.length+ys.length) cap e-(xs++ys).length)*u.sz:=by rw [qux,hzs,hsz,List.length_append]
   have hf:=fun l (hl:t∈l)=>qtn (e:=e) (rest:=Builtin.zeroCells z.cells (grownCap w (xs.length+ys.length) cap e-(xs.length+ys.length))) hi hl (zs:=xs++ys) (cap:=grownCap w (xs.length+ys.length) cap e) (by simpa using hge) hle hcl hrest hel (w0:=w.drew) (.inr rfl)
   refine ⟨_,_,hr,fun hex=> ?_,fun hex=> ?_⟩
   ·have hi':=hi.drew.alloc (.cells ((olds++news).toArray++Builtin.zeroCells z.cells (grownCap w (xs.length+ys.length) cap e-(xs.length+ys.length))) e);refine ⟨A,hi',?_⟩;obtain ⟨A',_,h6⟩:=hf [t] (by simp);have S:Step (X.F A) (X.F A) w (w.drew.alloc (.cells ((olds++news).toArray++Builtin.zeroCells z.cells (grownCap w (xs.length+ys.length) cap e-(xs.length+ys.length))) e)):=
     ⟨fun k _ hk=>zbt w.drew _ k hk,fun _ h=>.inl h⟩
    have hown:=ygo (F:=X.F A) (w:=w) (zs:=xs++ys) (cells:=olds++news) (by simpa using hge) hle hcl hrest (fun i x hx=>by obtain ⟨ds,hd,hc⟩:=hel i x hx;exact ⟨ds,hd.step S,hc⟩) (zkz w.drew _);have hp:=hown.plain (fun hF=>by
     rcases hF with hF|⟨d,hF⟩|⟨m,k,hF⟩
     ·have:=(hi.good.f0 _ hF).1;have:=hi.kept.size;omega
     ·have:=(hi.good.bxm d _ hF).2;omega
     ·have:=(hi.good.tgm m _ k hF).2;omega)
    rw [List.length_append] at hp;exact hp
   ·obtain ⟨A',h5,h6⟩:=hf l ht;exact ⟨A',h5,by simpa using h6⟩
theorem zph {a:Act} {w w':World} {c:Call} {o:Oper} {b:Builtin} {v:Value} (ho:o.op= .call c) (hc:c.callee= .builtin b)
 (hr:∀consts,(builtin b c.argTypes o.type consts (c.args.map a.eval)).run X.P w= .ok (.value v) w'):(execOp a.eval o).run X.P w= .ok (.value v) w':=by
 simp [execOp,ho,resolve,hc,invoke,hr]
theorem qkr {α:Type} {a:Array α} {l:List α} (h:a.toList=l):a=l.toArray:=by rw [←h]
theorem yvw {c:Call} (hE:zgk X.P X.E) (ho:o.op= .call c) (hc:c.callee= .builtin .len) (hd:∀d,o.dst=some d→d<X.n) (h:opK X.E run σ o some=some σ'):zbm X o σ σ':=by
 simp only [opK,ho,hc] at h;split at h
 ·rename_i x ty hargs htys;split at h
  ·rename_i i hti;have ht:=hE.ti ty i hti;obtain ⟨d,hu,hk⟩:=ht.und;split at h
   ·rename_i e e' u xs g hid hx;cases h;refine .value hd fun A a w hi=> ?_
    have hv:=zah hi x;rw [hx] at hv;obtain ⟨ad,cap,he,_⟩:=ymz hi hv;rw [hid] at hk;cases d<;>try exact hk.elim
    refine ⟨.int .i64 (xs.length:Int),zph ho hc fun consts=> ?_,rfl⟩;simp [builtin,qkr hargs,qkr htys,he,Builtin.len_,run_underlying hu,goInt]
   ·rename_i s hid hx;cases h;refine .value hd fun A a w hi=> ?_
    have hv:=zah hi x;rw [hx] at hv;have he:a.eval x= .string s:=hv;rw [hid] at hk;cases d<;>try exact hk.elim
    refine ⟨.int .i64 (s.size:Int),zph ho hc fun consts=> ?_,rfl⟩;simp [builtin,qkr hargs,qkr htys,he,Builtin.len_,run_underlying hu,goInt]
   ·cases h
  ·cases h
 ·cases h
theorem yxh {c:Call} (hE:zgk X.P X.E) (ho:o.op= .call c) (hc:c.callee= .builtin .cap) (hd:∀d,o.dst=some d→d<X.n) (h:opK X.E run σ o some=some σ'):zbm X o σ σ':=by
 simp only [opK,ho,hc] at h;split at h
 ·rename_i x ty hargs htys;split at h
  ·rename_i i hti;have ht:=hE.ti ty i hti;obtain ⟨d,hu,hk⟩:=ht.und;split at h
   ·rename_i e e' u xs hid hx;cases h;refine .value hd fun A a w hi=> ?_
    have hv:=zah hi x;rw [hx] at hv;obtain ⟨_,ad,he⟩:=hv;rw [hid] at hk;cases d<;>try exact hk.elim
    refine ⟨.int .i64 0,zph ho hc fun consts=> ?_,rfl⟩;simp [builtin,qkr hargs,qkr htys,he,Builtin.cap_,run_underlying hu,goInt]
   ·cases h
  ·cases h
 ·cases h
theorem yvo {c:Call} (ho:o.op= .call c) (hc:c.callee= .builtin .max) (hd:∀d,o.dst=some d→d<X.n) (h:opK X.E run σ o some=some σ'):zbm X o σ σ':=by
 simp only [opK,ho,hc] at h;split at h
 ·rename_i x y hargs;split at h
  ·rename_i k n k' m hx hy;cases h;refine .value hd fun A a w hi=> ?_
   have h1:=zah hi x;have h2:=zah hi y;rw [hx] at h1;rw [hy] at h2;have h1':a.eval x= .int k n:=h1;have h2':a.eval y= .int k' m:=h2;refine ⟨.int k (if m>n then m else n),zph ho hc fun consts=> ?_,rfl⟩;simp [builtin,qkr hargs,h1',h2',run_max_int2]
  ·cases h
 ·cases h
theorem yvn {c:Call} (ho:o.op= .call c) (hc:c.callee= .builtin .min) (hd:∀d,o.dst=some d→d<X.n) (h:opK X.E run σ o some=some σ'):zbm X o σ σ':=by
 simp only [opK,ho,hc] at h;split at h
 ·rename_i x y hargs;split at h
  ·rename_i k n k' m hx hy;cases h;refine .value hd fun A a w hi=> ?_
   have h1:=zah hi x;have h2:=zah hi y;rw [hx] at h1;rw [hy] at h2;have h1':a.eval x= .int k n:=h1;have h2':a.eval y= .int k' m:=h2;refine ⟨.int k (if m<n then m else n),zph ho hc fun consts=> ?_,rfl⟩;simp [builtin,qkr hargs,h1',h2',run_min_int2]
  ·cases h
 ·cases h
theorem ydm {c:Call} {ty:TypeId} {s x:Operand} (hE:zgk X.P X.E) (ho:o.op= .call c) (hc:c.callee= .builtin .append) (hargs:c.args.toList=[s,x]) (htys:c.argTypes.toList=[ty,ty]) (hd:∀d,o.dst=some d→d<X.n)
 (h:zwh X.E σ o.dst ty (σ.ev s) (σ.ev x) some=some σ'):zbm X o σ σ':=by
 unfold zwh at h;split at h
 ·cases h
 rename_i i hti;have ht:=hE.ti ty i hti;split at h
 ·rename_i e e' u d hid hity hdst;split at h
  ·cases h
  rename_i ie hte;have hte':=hE.ti e ie hte;split at h
  ·rename_i hcond;obtain ⟨rfl,hpos,hsz⟩:=hcond;split at h
   ·rename_i xs g ys hs hx;have hS:∀(A:Fr) (a:Act) (w:World),Inv X A σ a.tmps w→RC (X.F A) A w (.slice e' u xs g) (a.eval s):=fun A a w hi=>by
     have hv:=zah hi s;split at hs
     ·rename_i hq;rw [hq] at hv;cases hs;have:a.eval s= .slice none 0 0:=hv;rw [this];exact ⟨rfl,none,rfl⟩
     ·rename_i hq;split at hs
      ·rename_i hee;obtain ⟨rfl,rfl⟩:=hee;cases hs;rw [hq] at hv;exact hv
      ·cases hs
     ·cases hs
    have hX:∃g',∀(A:Fr) (a:Act) (w:World),Inv X A σ a.tmps w→RC (X.F A) A w (.slice e' u ys g') (a.eval x):=by
     split at hx
     ·rename_i hq;cases hx;refine ⟨.nil,fun A a w hi=> ?_⟩;have hv:=zah hi x;rw [hq] at hv;have:a.eval x= .slice none 0 0:=hv;rw [this];exact ⟨rfl,none,rfl⟩
     ·rename_i g' hq;split at hx
      ·rename_i hee;obtain ⟨rfl,rfl⟩:=hee;cases hx;refine ⟨g',fun A a w hi=> ?_⟩;have hv:=zah hi x;rw [hq] at hv;exact hv
      ·cases hx
     ·cases hx
    obtain ⟨g',hX⟩:=hX;have fin:∀(l:List Nat),zai (xs.length+ys.length) ie.bytes=true→g≠.no→zcc d 0 0∈l→(∀n,g= .own n→n∈l)→
     (g= .exact→σ'=σ.put (some d) (.sv (.one (.slice e' u (xs++ys) .no))))→(g≠.exact→σ'=(σ.kill l).put (some d) (.sv (.one (.slice e' u (xs++ys) (.own (zcc d 0 0))))))→zbm X o σ σ':=by
     intro l hroom hg ht' hl h1 h2 A a w hi hdef next Q hn
     obtain ⟨v',w',hr,k1,k2⟩:=quq (tt:=o.type) ht hid hte' hsz hi (hS A a w hi) (hX A a w hi) hg hroom ht' hl;have hrun:(execOp a.eval o).run X.P w= .ok (.value v') w':=zph ho hc fun consts=>by simp [builtin,qkr hargs,qkr htys,hr]
     refine znr hrun ?_;by_cases hge:g= .exact
     ·obtain ⟨A',hi',hc'⟩:=k1 hge;rw [h1 hge] at hn;exact hn A' _ _ (by rw [hdst];exact hi'.put (fun d' hd'=>hd d' (by rw [hdst];exact hd')) fun _=>hc') (by rw [put_defers];exact hdef)
     ·obtain ⟨A',hi',hc'⟩:=k2 hge;rw [h2 hge] at hn;exact hn A' _ _ (by rw [hdst];exact hi'.put (fun d' hd'=>hd d' (by rw [hdst];exact hd')) fun _=>hc') (by rw [put_defers];exact hdef)
    cases hroom:zai (xs.length+ys.length) ie.bytes with
    |false=>cases g<;>simp [hroom] at h
    |true=>
     cases g with
     |no=>simp at h
     |nil=>simp only [hroom,cond_true,Option.some.injEq] at h;exact fin [zcc d 0 0] hroom (by simp) (by simp) (by simp) (by simp) fun _=>h.symm
     |exact=>simp only [hroom,cond_true,Option.some.injEq] at h;exact fin [zcc d 0 0] hroom (by simp) (by simp) (by simp) (fun _=>h.symm) (by simp)
     |own n=>simp only [hroom,cond_true,Option.some.injEq] at h;exact fin [n,zcc d 0 0] hroom (by simp) (by simp) (by simp) (by simp) fun _=>h.symm
   ·cases h
  ·cases h
 ·cases h
end
section
variable {X:Ctx} {run:Runs X.E} {o:Oper} {σ σ':St}
theorem zvq {A0:Fr} {tm:Array Value} {w:World} (hi0:Inv X A0 σ tm w) (l:List Nat):
 ∃A',Inv X A' (σ.release l) tm w∧(A'=A0∨A'=A0.drop l)∧∀(cs:List PC) (vs:List Value),RCs (X.F A0) A0 w cs vs→(∀m∈zdk cs,m∈l)→∀(u:Ty) (x:u.den),u.ofPC cs=some x→Cl (X.F A') w u x vs:=by
 obtain ⟨A',hi,hA',hA2⟩:=hi0.release l;refine ⟨A',hi,hA',fun cs vs hc hl u x hx=> ?_⟩;have S:Step (X.F A0) (X.F A') w w:=by
  rcases hA' with rfl|rfl
  ·exact Step.refl _ _
  ·exact Step.drop _ _ _ _
 have hc':RCs (X.F A') A0 w cs vs:=hc.step S fun c _=>(Ext.refl A0 w).stays c
 refine RCs.ofPC hx (fun c hcm=> ?_) hc';cases c with
 |slice e1 t1 xs1 q=>cases q with
  |own m=>
   intro g1 l1 hg1;have hm:=hl m (List.mem_flatMap.2 ⟨_,hcm,List.mem_singleton.2 rfl⟩);refine ⟨?_,(hi0.good.tgm m g1 l1 hg1).2⟩;rcases hA2 with ⟨rfl,_⟩|rfl
   ·cases hm
   ·exact hi0.good.notF hg1 hm
  |_=>trivial
 |_=>trivial
theorem qjt {F:Nat→Prop} {A:Fr} {w:World}:∀{u:Ty} {x:u.den} {cs:List PC} {vs:List Value},u.flat=true→u.ofPC cs=some x→RCs F A w cs vs→vs=zbg u x
 | .bool,x,cs,vs,_,ho,h=>by obtain rfl:=qui ho;cases h with|cons h0 ht=>cases ht;cases h0;rfl
 | .int k,x,cs,vs,_,ho,h=>by obtain rfl:=ycp ho;cases h with|cons h0 ht=>cases ht;cases h0;rfl
 | .str,x,cs,vs,_,ho,h=>by obtain rfl:=qzr ho;cases h with|cons h0 ht=>cases ht;cases h0;rfl
 | .fn,x,cs,vs,_,ho,h=>by
   obtain rfl:=ylf ho;cases h with
   |cons h0 ht=>cases ht;obtain ⟨us,rfl,hu⟩:=h0;cases hu;rfl
 | .slice e t,_,_,_,hf,_,_=>by cases hf
 | .pair a b,x,cs,vs,hf,ho,h=>by
   simp only [Ty.flat,Bool.and_eq_true] at hf;unfold Ty.ofPC at ho;split at ho
   ·rename_i x1 y1 h1 h2;cases ho;have c1:=qjt hf.1 h1 (zhe h a.sz);have c2:=qjt hf.2 h2 (zhf h a.sz);rw [←List.take_append_drop a.sz vs,c1,c2];rfl
   ·cases ho
theorem qyb (off:Nat):∀(L:List Value) (k:Nat) (A:Array Value),off+k+L.length≤A.size→
 ((L.zipIdx k).foldl (fun cs (p:Value×Nat)=>cs.setIfInBounds (off+p.2) p.1) A).toList=A.toList.take (off+k)++L++A.toList.drop (off+k+L.length)
 |[],k,A,_=>by simp
 |c::L,k,A,h=>by
  simp only [List.length_cons] at h;rw [List.zipIdx_cons,List.foldl_cons,qyb off L (k+1) _ (by simp;omega)];refine List.ext_getElem? fun i=> ?_
  have e1:=znf (A.setIfInBounds (off+k) c).toList L (off+(k+1)) i (by simp;omega);have e2:=znf A.toList (c::L) (off+k) i (by simp;omega);rw [e1,e2];simp only [Array.getElem?_toList,Array.getElem?_setIfInBounds,List.length_cons];by_cases h1:i<off+k
  ·rw [if_pos (by omega),if_pos h1,if_neg (by omega)]
  ·rw [if_neg h1];by_cases h2:i=off+k
   ·subst h2;rw [if_pos (by omega),if_pos rfl,if_pos (by omega),if_pos (by omega)];simp
   ·by_cases h3:i<off+k+(L.length+1)
    ·rw [if_neg (by omega),if_pos (by omega),if_pos h3];rw [show i-(off+k)=(i-(off+(k+1)))+1 by omega];simp
    ·rw [if_neg (by omega),if_neg (by omega),if_neg h3,if_neg (by omega)]
theorem yho {place:Nat→Option (Nat×Nat)} {A:Array Value} {i off sz:Nat} {v:Value} {r:List (Nat×Value)} (hp:place i=some (off,sz)) (hs:v.cells.size=sz) (hf:off+sz≤A.size):
 Instr.fill place A ((i,v)::r)=Instr.fill place (A.toList.take off++v.cells.toList++A.toList.drop (off+v.cells.toList.length)).toArray r:=by
 have:=qyb off v.cells.toList 0 A (by simp [hs];omega);have e:(v.cells.zipIdx.foldl (fun cs (c,j)=>cs.setIfInBounds (off+j) c) A)=(A.toList.take off++v.cells.toList++A.toList.drop (off+v.cells.toList.length)).toArray:=by refine Array.ext' ?_;simp only [Nat.add_zero] at this;show _=_;rw [←this,←Array.foldl_toList];simp only [Array.toList_zipIdx]
 simp only [Instr.fill,hp,hs,ne_eq,not_true_eq_false,decide_false,Bool.false_or,gt_iff_lt,decide_eq_true_eq,show ¬(A.size<off+sz) by omega,Bool.false_eq_true,if_false,e]
theorem qlt {A:Fr} {a:Act} {w:World} (hE:zgk X.P X.E) (hi:Inv X A σ a.tmps w) {place:Nat→Option (Nat×TypeId)} {place':Nat→Option (Nat×Nat)} (hp:∀j off ft i',place j=some (off,ft)→X.E.ti ft=some i'→place' j=some (off,i'.size)):
 ∀(parts:List (Nat×Operand)) (cs cs':List PC) (cells:Array Value),zog X.E place σ parts cs=some cs'→RCs (X.F A) A w cs cells.toList→
  ∃cells',Instr.fill place' cells (parts.map fun p=>(p.1,a.eval p.2))=some cells'∧RCs (X.F A) A w cs' cells'.toList
 |[],cs,cs',cells,h,hc=>by simp only [zog,Option.some.injEq] at h;subst h;exact ⟨cells,rfl,hc⟩
 |(i,x)::r,cs,cs',cells,h,hc=>by
  simp only [zog] at h;split at h
  ·cases h
  rename_i off ft hpl;split at h
  ·rename_i i' s hti hs;split at h
   ·rename_i hcond;obtain ⟨hlen,hfit⟩:=hcond;have hx:RP (X.F A) A w _ _:=ziu ft (zah hi x);rw [hs] at hx;have hcells:=RS.cells hx;have hvs:(a.eval x).cells.size=i'.size:=by have:=hcells.length;simp at this;omega
    have hcl:=hc.length;simp at hcl;obtain ⟨cells',h1,h2⟩:=qlt hE hi hp r _ cs' (cells.toList.take off++(a.eval x).cells.toList++cells.toList.drop (off+(a.eval x).cells.toList.length)).toArray h (qgz hc hcells off);exact ⟨cells',by rw [List.map_cons,yho (hp i off ft i' hpl hti) hvs (by omega)];exact h1,h2⟩
   ·cases h
  ·cases h
theorem qtb {P:Program}:∀(fs:List Field),(∀f∈fs,∃tf,P.info? f.type=some tf)→∃places:List (Nat×Nat),fs.mapM (fun (f:Field)=>(P.info? f.type).map fun i=>(f.offset,i.size))=some places∧
 ∀(j:Nat) (f:Field) (tf:TypeInfo),fs[j]? =some f→P.info? f.type=some tf→places[j]? =some (f.offset,tf.size)
 |[],_=>⟨[],rfl,by simp⟩
 |f::fs,h=>by
  obtain ⟨tf,htf⟩:=h f (List.mem_cons_self ..);obtain ⟨places,h1,h2⟩:=qtb fs fun g hg=>h g (List.mem_cons_of_mem _ hg)
  refine ⟨(f.offset,tf.size)::places,by simp [List.mapM_cons,htf,h1],fun j g tg hj hg=> ?_⟩;cases j with
  |zero=>simp at hj;subst hj;rw [htf] at hg;cases hg;rfl
  |succ j=>simpa using h2 j g tg (by simpa using hj) hg
theorem ylz {t:TypeId} {parts:Array (Nat×Operand)} (hE:zgk X.P X.E) (ho:o.op= .build t parts) (hd:∀d,o.dst=some d→d<X.n) (h:opK X.E run σ o some=some σ'):zbm X o σ σ':=by
 simp only [opK,ho] at h;split at h
 ·rename_i i hti;have ht:=hE.ti t i hti;obtain ⟨ti,hi,_,_,z,hz,hzs,hzv⟩:=ht.info;obtain ⟨d,hu,hk⟩:=ht.und;have fin:∀(cs:List PC) (A:Fr) (a:Act) (w:World),(∃cells:Array Value,X.P.built t (parts.map fun (i,x)=>(i,a.eval x)).toList=some cells∧RCs (X.F A) A w cs cells.toList)→
   ∃v,(execOp a.eval o).run X.P w= .ok (.value v) w∧RP (X.F A) A w (.sv (.agg cs)) v:=fun cs A a w ⟨cells,h1,h2⟩=>
   ⟨.agg cells,by simp only [execOp,ho,Sem.run_bind,run_build w t _ cells h1,Result.andThen_ok];rfl,cells.toList,by simp,h2⟩
  have hmap:∀(a:Act),(parts.map fun (i,x)=>(i,a.eval x)).toList=parts.toList.map fun p=>(p.1,a.eval p.2):=fun a=>by simp
  split at h
  ·rename_i fs u hid hty;split at h
   ·rename_i cs hcs;cases h;refine .value hd fun A a w hinv=>fin cs A a w ?_
    rw [hid] at hk;cases d<;>try exact hk.elim
    rename_i fields;have hk':fields.toList.map (fun f=>(f.offset,f.type))=fs:=hk;obtain ⟨places,hp1,hp2⟩:=qtb (P:=X.P) fields.toList fun f hf=>by obtain ⟨tf,h1,_⟩:=ht.fields fs hid (f.offset,f.type) (by rw [←hk'];exact List.mem_map.2 ⟨f,hf,rfl⟩);exact ⟨tf,h1⟩
    obtain ⟨cells,h1,h2⟩:=qlt hE hinv (place':=(places.toArray[·]?)) (fun j off ft i' hj hi'=>by
     rw [←hk',List.getElem?_map] at hj;cases hg:fields.toList[j]? with
     |none=>simp [hg] at hj
     |some g=>
      simp only [hg,Option.map_some,Option.some.injEq,Prod.mk.injEq] at hj;obtain ⟨rfl,rfl⟩:=hj;obtain ⟨tf,h1,h2,_⟩:=(hE.ti _ i' hi').info;have:=hp2 j g tf hg h1;rw [h2] at this
      simpa using this) parts.toList (ztz u) cs z.cells hcs (by rw [hzv u hty];exact qhk u)
    refine ⟨cells,?_,h2⟩;simp only [Program.built,hi,hu,hz,hp1,hmap];exact h1
   ·cases h
  ·rename_i n e u hid hty;split at h
   ·rename_i ie hte;split at h
    ·rename_i cs hcs;cases h;refine .value hd fun A a w hinv=>fin cs A a w ?_
     rw [hid] at hk;cases d<;>try exact hk.elim
     obtain ⟨_,rfl⟩:=hk;obtain ⟨te,he1,he2,_⟩:=(hE.ti _ ie hte).info;obtain ⟨cells,h1,h2⟩:=qlt hE hinv (place':=fun i=>some (i*te.size,te.size)) (fun j off ft i' hj hi'=>by
      split at hj
      ·simp only [Option.some.injEq,Prod.mk.injEq] at hj;obtain ⟨rfl,rfl⟩:=hj;rw [hte] at hi';cases hi';rw [he2]
      ·cases hj) parts.toList (ztz u) cs z.cells hcs (by rw [hzv u hty];exact qhk u)
     refine ⟨cells,?_,h2⟩;simp only [Program.built,hi,hu,hz,he1,hmap];exact h1
    ·cases h
   ·cases h
  ·cases h
 ·cases h
theorem qyh {A:Fr} {a:Act} {w:World} {e:TypeId} {u:Ty} (hsz:0<u.sz):
 ∀(parts:List (Nat×Operand)),(∀p∈parts,∀(s:SV),X.E.typed e (σ.ev p.2)= .sv s→∀y,u.ofPC s.cells=some y→Cl (X.F A) w u y (a.eval p.2).cells.toList)→∀(n i:Nat) (l:List u.den) (cells:Array Value),zvy X.E e u σ parts n i=some l→cells.size=(i+n)*u.sz→
  (∀k,i≤k→k<i+n→∀j v,(zjz u)[j]? =some v→cells[k*u.sz+j]? =some v)→
  ∃cells',Instr.fill (fun i=>some (i*u.sz,u.sz)) cells (parts.map fun p=>(p.1,a.eval p.2))=some cells'∧cells'.size=cells.size∧l.length=n∧(∀k,k<i*u.sz→cells'[k]? =cells[k]?)∧
   ∀m x,l[m]? =some x→∃ds,Cl (X.F A) w u x ds∧∀j v,ds[j]? =some v→cells'[(i+m)*u.sz+j]? =some v
 |[],_,n,i,l,cells,h,hs,hz=>by
  simp only [zvy] at h;split at h
  ·rename_i hc;cases h;refine ⟨cells,rfl,rfl,by simp,fun _ _=>rfl,fun m x hm=> ?_⟩;have hmn:m<n:=by have:=(List.getElem?_eq_some_iff.1 hm).1;simpa using this
   rw [List.getElem?_replicate,if_pos hmn] at hm;cases hm;rcases hc with hc|hc
   ·omega
   ·exact ⟨zjz u,qyr u hc,fun j v hj=>hz (i+m) (by omega) (by omega) j v hj⟩
  ·cases h
 |(j,x)::r,_,0,i,l,cells,h,hs,hz=>by simp [zvy] at h
 |(j,x)::r,hP,n+1,i,l,cells,h,hs,hz=>by
  simp only [zvy] at h;split at h
  ·rename_i hji;subst hji;split at h
   ·rename_i s l' hs' hl';split at h
    ·rename_i y hy;cases h;have hc:=hP (j,x) (List.mem_cons_self ..) s hs' y hy;generalize hds:(a.eval x).cells=ds at hc;have hdl:=hc.length;simp only [Array.length_toList] at hdl;have hmul:(j+(n+1))*u.sz=j*u.sz+u.sz+n*u.sz:=by simp [Nat.add_mul];omega
     have hfit:j*u.sz+u.sz≤cells.size:=by rw [hs,hmul];omega
     have hn1:(j+1)*u.sz=j*u.sz+u.sz:=by simp [Nat.add_mul]
     obtain ⟨cells',h1,h2,h3,h4,h5⟩:=qyh hsz r (fun p hp=>hP p (List.mem_cons_of_mem _ hp)) n (j+1) l' (cells.toList.take (j*u.sz)++ds.toList++cells.toList.drop (j*u.sz+ds.toList.length)).toArray hl'
      (by simp [hdl];rw [hs,hmul];simp [Nat.add_mul];omega) (fun k hk1 hk2 q v hq=>by
       have hql:=(List.getElem?_eq_some_iff.1 hq).1;rw [zty] at hql;have:(j+1)*u.sz≤k*u.sz:=Nat.mul_le_mul_right _ hk1;have e1:=znf cells.toList ds.toList (j*u.sz) (k*u.sz+q) (by simp [hdl];omega);rw [List.getElem?_toArray,e1,if_neg (by omega),if_neg (by simp [hdl];omega)]
       simpa using hz k (by omega) (by omega) q v hq)
     have hsz':(cells.toList.take (j*u.sz)++ds.toList++cells.toList.drop (j*u.sz+ds.toList.length)).toArray.size=cells.size:=by simp [hdl];omega
     refine ⟨cells',?_,h2.trans hsz',by simp [h3],fun k hk=> ?_,fun m x' hm=> ?_⟩
     ·rw [List.map_cons,yho (place:=fun i=>some (i*u.sz,u.sz)) (off:=j*u.sz) (sz:=u.sz) rfl (by rw [hds];exact hdl) hfit,hds];exact h1
     ·rw [h4 k (by omega)];have e1:=znf cells.toList ds.toList (j*u.sz) k (by simp [hdl];omega);rw [List.getElem?_toArray,e1,if_pos hk];simp
     ·cases m with
      |zero=>simp at hm;subst hm;refine ⟨ds.toList,hc,fun q v hq=> ?_⟩;have hql:=(List.getElem?_eq_some_iff.1 hq).1;simp only [Array.length_toList] at hql;rw [Nat.add_zero,h4 _ (by omega)];have e1:=znf cells.toList ds.toList (j*u.sz) (j*u.sz+q) (by simp [hdl];omega);rw [List.getElem?_toArray,e1,if_neg (by omega),if_pos (by simp;omega),Nat.add_sub_cancel_left];exact hq
      |succ m=>obtain ⟨ds',hd',hc'⟩:=h5 m x' (by simpa using hm);refine ⟨ds',hd',fun q v hq=> ?_⟩;rw [show j+(m+1)=j+1+m by omega];exact hc' q v hq
    ·cases h
   ·cases h
  ·cases h
theorem yot (E:Env) (t:TypeId) (p:PV) (s:SV) (h:E.typed t p= .sv s):∃s0,p= .sv s0∧∀m∈zdk s.cells,m∈zdk s0.cells:=by
 unfold Env.typed at h;split at h
 ·refine ⟨_,rfl,?_⟩;split at h
  ·split at h
   ·cases h;intro m hm;simp [zdk,SV.cells,PC.tag] at hm
   ·cases h;exact fun m hm=>hm
  ·cases h;exact fun m hm=>hm
 ·exact ⟨s,h,fun m hm=>hm⟩
theorem qna:∀{parts:List (Nat×Operand)} {p:Nat×Operand} {s:SV},p∈parts→σ.ev p.2= .sv s→∀m∈zdk s.cells,m∈zod σ parts
 |(i,x)::r,p,s,hp,hs,m,hm=>by
  simp only [zod,List.mem_append];rcases List.mem_cons.1 hp with rfl|hp
  ·left;simp only at hs;rw [hs];exact hm
  ·right;exact qna hp hs m hm
theorem yhf (l:List Nat) (σ:St):(σ.kill l).release l=σ.kill l:=by
 have pc:∀c:PC,PC.zcs (fun n=>bif mem l n then some true else none) (PC.zcs (fun n=>bif mem l n then some false else none) c)=PC.zcs (fun n=>bif mem l n then some false else none) c:=fun c=>by
  cases c with
  |slice e t xs g=>cases g with
   |own n=>cases hm:mem l n<;>simp [PC.zcs,hm]
   |_=>rfl
  |elemT u g i o=>cases hm:mem l g<;>simp [PC.zcs,hm]
  |_=>rfl
 cases l with
 |nil=>rfl
 |cons x l=>
  show ((σ.map _).map _)=σ.map _;obtain ⟨s,b⟩:=σ;have sv:∀s:SV,(s.map (PC.zcs (fun n=>bif mem (x::l) n then some false else none))).map (PC.zcs (fun n=>bif mem (x::l) n then some true else none))=s.map (PC.zcs (fun n=>bif mem (x::l) n then some false else none)):=fun s=>by cases s<;>simp only [SV.map,List.map_map,Function.comp_def,pc]
  have pv:∀p:PV,(p.map (PC.zcs (fun n=>bif mem (x::l) n then some false else none))).map (PC.zcs (fun n=>bif mem (x::l) n then some true else none))=p.map (PC.zcs (fun n=>bif mem (x::l) n then some false else none)):=fun p=>by cases p<;>simp only [PV.map,List.map_map,Function.comp_def,sv]
  simp only [St.map,List.map_map,Function.comp_def,pv,pc]
theorem qoo {t:TypeId} {n:Nat} {parts:Array (Nat×Operand)} (hE:zgk X.P X.E) (ho:o.op= .buildSlice t n parts) (hd:∀d,o.dst=some d→d<X.n) (h:opK X.E run σ o some=some σ'):zbm X o σ σ':=by
 simp only [opK,ho] at h;split at h
 ·rename_i i hti;have ht:=hE.ti t i hti;split at h
  ·rename_i e e' u hid hty;split at h
   ·rename_i ie hte;have hte':=hE.ti e ie hte;split at h
    ·rename_i hcond;obtain ⟨rfl,hcap,hsz,hety⟩:=hcond;split at h
     ·rename_i l hl;split at h
      ·rename_i d hdst;cases h;intro A0 a w hi0 hdef next Q hn
       obtain ⟨dd,hu,hk⟩:=ht.und;rw [hid] at hk;cases dd<;>try exact hk.elim
       have hk':e'=_:=hk;subst hk';obtain ⟨te,he1,he2,_,z,hz,hzs,hzv⟩:=hte'.info;have hpos:=Ty.zpw u;obtain ⟨A1,hi1,_,hpl⟩:=zvq hi0 (zod σ parts.toList);have hsz':te.size=u.sz:=by rw [he2,hsz]
       obtain ⟨cells',h1,h2,h3,_,h5⟩:=qyh (A:=A1) (a:=a) (w:=w) (e:=e') hpos parts.toList (fun p hp s hs y hy=>by
        obtain ⟨s0,hs0,hm0⟩:=yot X.E e' _ s hs;have hx:RP (X.F A0) A0 w _ _:=ziu e' (zah hi0 p.2);rw [hs] at hx;exact hpl _ _ (RS.cells hx) (fun m hm=>qna hp hs0 m (hm0 m hm)) u y hy) n 0 l ((Array.range (n*te.size)).map (z.cells[· % z.cells.size]!)) hl (by simp [hsz']) (fun k hk1 hk2 j v hj=>by
         have hjl:=(List.getElem?_eq_some_iff.1 hj).1;rw [zty] at hjl;have hzu:=hzv u hety;have hzl:z.cells.size=u.sz:=by rw [hzs,hsz]
         have hk3:(k+1)*u.sz≤n*u.sz:=Nat.mul_le_mul_right _ (by omega);rw [Nat.add_mul,Nat.one_mul] at hk3;rw [Array.getElem?_map,Array.getElem?_range,if_pos (by rw [hsz'];omega),Option.map_some,hzl,Nat.mul_comm k,Nat.mul_add_mod,Nat.mod_eq_of_lt hjl];rw [←hzu,Array.getElem?_toList] at hj;rw [getElem!_def,hj])
       have hcap':n≤16777216:=by have:n*1≤n*ie.size:=Nat.mul_le_mul_left _ (by omega);omega
       have hcs:cells'.toList.length=l.length*u.sz:=by rw [Array.length_toList,h2,h3];simp [hsz']
       obtain ⟨A2,hi2,hc2⟩:=qtn (e:=e') (rest:= #[]) hi1 (l:=[zcc d 0 0]) (n:=zcc d 0 0) (by simp) (zs:=l) (cap:=n) (by omega) (by simp only [maxLen];omega) hcs (by simp [h3]) (fun m x hm=>by
        obtain ⟨ds,hd1,hd2⟩:=h5 m x hm;refine ⟨ds,hd1,fun j v hj=> ?_⟩;have:=hd2 j v hj;rw [Nat.zero_add] at this
        simpa using this) (w0:=w) (.inl rfl)
       have harr:cells'.toList.toArray++ #[]=cells':=by simp
       rw [harr] at hi2 hc2;have hmap:∀(a:Act),(parts.map fun (i,x)=>(i,a.eval x)).toList=parts.toList.map fun p=>(p.1,a.eval p.2):=fun a=>by simp
       have hrun:(execOp a.eval o).run X.P w= .ok (.value (.slice (some ⟨w.heap.size,0,none⟩) n n)) (w.alloc (.cells cells' e')):=by
        have hfill:Instr.fill (fun i=>some (i*te.size,te.size)) ((Array.range (n*te.size)).map (z.cells[· % z.cells.size]!)) (List.map (fun x=>(x.fst,a.eval x.snd)) parts.toList)=some cells':=by rw [hsz'];rw [hsz'] at h1;exact h1
        have hle:¬(16777216<n*te.size):=by rw [he2];omega
        simp only [execOp,ho,Instr.buildSlice,Sem.run_bind,run_underlying hu,Result.andThen_ok];by_cases h0:n*te.size=0
        ·have hr0:∀f:Nat→Value,(Array.range 0).map f= #[]:=fun f=>Array.eq_empty_of_size_eq_zero (by simp)
         rw [h0,hr0] at hfill;simp [sizeOf,typeInfo,he1,h0,newRow,hr0,hfill]
        ·simp [sizeOf,typeInfo,zeroValue,he1,hle,h0,hz,newRow,hfill]
       rw [h3] at hc2;cases hlit:X.E.lits o.pos with
       |false=>rw [hlit] at hn;refine znr hrun (hn A2 _ _ ?_ (by rw [put_defers];exact hdef));rw [hdst];exact hi2.put (fun d' hd'=>hd d' (by rw [hdst];exact hd')) fun _=>hc2
       |true=>rw [hlit] at hn;obtain ⟨A3,hi3,_,hpl3⟩:=zvq hi2 [zcc d 0 0];rw [yhf] at hi3;have hcl:=hpl3 [.slice e' u l (.own (zcc d 0 0))] _ (.cons hc2 .nil) (fun m hm=>by simpa [zdk,PC.tag] using hm) (.slice e' u) l (by simp [Ty.ofPC,rowOf]);refine znr hrun (hn A3 _ _ ?_ (by rw [put_defers];exact hdef));rw [hdst];exact hi3.put (fun d' hd'=>hd d' (by rw [hdst];exact hd')) fun _=>⟨hcl,_,by rw [←h3]⟩
      ·cases h
     ·cases h
    ·cases h
   ·cases h
  ·cases h
 ·cases h
end
section
variable {X:Ctx} {run:Runs X.E} {o:Oper} {σ σ':St}
theorem ywf {P:Program} {op:BinOp} {t:TypeId} {k:IntKind} {a b:Int} {c:PC} (h:xhw op k a b=some c) (w:World):∃v,(binOp op t (.int k a) (.int k b)).run P w= .ok v w∧∀{F:Nat→Prop} {A:Fr},RC F A w c v:=by
 cases op<;>simp only [xhw,Option.some.injEq] at h<;>try (cases h;done)
 all_goals subst h
 all_goals exact ⟨_,by simp [binOp,Op.intArith,Op.intCmp]<;>rfl,rfl⟩
theorem yso {P:Program} {op:BinOp} {t:TypeId} {a b:ByteArray} {c:PC} (h:xfz op a b=some c) (w:World):∃v,(binOp op t (.string a) (.string b)).run P w= .ok v w∧∀{F:Nat→Prop} {A:Fr},RC F A w c v:=by
 cases op<;>simp only [xfz,Option.some.injEq] at h<;>try (cases h;done)
 all_goals subst h
 all_goals exact ⟨_,by simp [binOp,Op.stringOp]<;>rfl,rfl⟩
theorem zsf {P:Program} (op:BinOp) (t:TypeId) (x y:Operand) (a b:Value) (w:World) (h:(∀cs,a≠.agg cs)∧a≠.nilIface):(eqGuard op t x y a b).run P w= .ok () w:=by
 cases op<;>simp [eqGuard]
 all_goals
  split
  ·exact absurd rfl h.2
  ·exact absurd rfl (h.1 _)
  ·rfl
theorem ymb {op:BinOp} {t:TypeId} {x y:Operand} {z:TypeId} (hE:zgk X.P X.E) (ho:o.op= .binOp op t x y z) (hd:∀d,o.dst=some d→d<X.n) (h:opK X.E run σ o some=some σ'):zbm X o σ σ':=by
 simp only [opK,ho] at h;split at h
 ·rename_i s1 s2 hs1 hs2;have ex:∀(A:Fr) (a:Act) (w:World),Inv X A σ a.tmps w→RS (X.F A) A w s1 (a.eval x)∧RS (X.F A) A w s2 (a.eval y):=fun A a w hi=>by have h1:RP (X.F A) A w _ _:=ziu t (zah hi x);have h2:=zah hi y;rw [hs1] at h1;rw [hs2] at h2;exact ⟨h1,h2⟩
  have fin:∀(c:PC),σ'=σ.put o.dst (.sv (.one c))→(∀(A:Fr) (a:Act) (w:World),Inv X A σ a.tmps w→∃v,((do eqGuard op t x y (a.eval x) (a.eval y);binOp op t (a.eval x) (a.eval y)):Sem Value).run X.P w= .ok v w∧RC (X.F A) A w c v)→zbm X o σ σ':=by
   intro c hσ hk;subst hσ;refine .value hd fun A a w hi=> ?_
   obtain ⟨v,hr,hc⟩:=hk A a w hi;refine ⟨v,?_,hc⟩;have e1:(execOp a.eval o).run X.P w=(((do eqGuard op t x y (a.eval x) (a.eval y);binOp op t (a.eval x) (a.eval y)):Sem Value).run X.P w).andThen fun v w'=>.ok (.value v) w':=by simp only [execOp,ho];rw [Sem.run_bind];rfl
   rw [e1,hr];rfl
  unfold binK at h;split at h
  ·
   rename_i k n k' m;split at h
   ·rename_i hk;subst hk;have key:∀(c:PC),(∀w,∃v,(binOp op t (.int k n) (.int k m)).run X.P w= .ok v w∧∀{F:Nat→Prop} {A:Fr},RC F A w c v)→σ'=σ.put o.dst (.sv (.one c))→zbm X o σ σ':=by
     intro c hc hσ;refine fin c hσ fun A a w hi=> ?_
     obtain ⟨e1,e2⟩:=ex A a w hi;have e1':a.eval x= .int k n:=e1;have e2':a.eval y= .int k m:=e2;obtain ⟨v,hv,hr⟩:=hc w;refine ⟨v,?_,hr⟩;rw [e1',e2',Sem.run_bind,zsf _ _ _ _ _ _ _ (by simp)];exact hv
    split at h
    ·cases hm:(m==0) with
     |true=>simp [hm] at h
     |false=>
      simp only [hm,cond_false,Option.some.injEq] at h;have hm':m≠0:=by simpa using hm
      exact key (.int k (k.wrap (n.tdiv m))) (fun w=>⟨.int k (k.wrap (n.tdiv m)),by simp [binOp,Op.intDiv,hm'],rfl⟩) h.symm
    ·cases hm:(m==0) with
     |true=>simp [hm] at h
     |false=>
      simp only [hm,cond_false,Option.some.injEq] at h;have hm':m≠0:=by simpa using hm
      exact key (.int k (n.tmod m)) (fun w=>⟨.int k (n.tmod m),by simp [binOp,Op.intDiv,hm'],rfl⟩) h.symm
    ·split at h
     ·rename_i c hc;cases h;exact key c (fun w=>ywf hc w) rfl
     ·cases h
   ·cases h
  ·
   rename_i a1 a2;have key:∀(c:PC),(∀w,∃v,(binOp op t (.string a1) (.string a2)).run X.P w= .ok v w∧∀{F:Nat→Prop} {A:Fr},RC F A w c v)→σ'=σ.put o.dst (.sv (.one c))→zbm X o σ σ':=by
    intro c hc hσ;refine fin c hσ fun A a w hi=> ?_
    obtain ⟨e1,e2⟩:=ex A a w hi;have e1':a.eval x= .string a1:=e1;have e2':a.eval y= .string a2:=e2;obtain ⟨v,hv,hr⟩:=hc w;refine ⟨v,?_,hr⟩;rw [e1',e2',Sem.run_bind,zsf _ _ _ _ _ _ _ (by simp)];exact hv
   split at h
   ·cases hm:decide (a1.size+a2.size≤9223372036854775807) with
    |false=>simp [hm] at h
    |true=>simp only [hm,cond_true,Option.some.injEq] at h;exact key (.str (a1++a2)) (fun w=>⟨.string (a1++a2),by simp only [binOp];exact run_string_add_sum w a1 a2 (of_decide_eq_true hm),rfl⟩) h.symm
   ·split at h
    ·rename_i c hc;cases h;exact key c (fun w=>yso hc w) rfl
    ·cases h
  ·
   rename_i b1 b2;split at h
   ·rename_i i hti;have ht:=hE.ti t i hti;obtain ⟨d,hu,hk⟩:=ht.und;have key:∀(q:Bool),i.d= .bool→((X.P.underlying t=some .bool)→∀w,(binOp op t (.bool b1) (.bool b2)).run X.P w= .ok (.bool q) w)→σ'=σ.put o.dst (.sv (.one (.bool q)))→zbm X o σ σ':=by
     intro q hid hc hσ;refine fin (.bool q) hσ fun A a w hi=> ?_
     obtain ⟨e1,e2⟩:=ex A a w hi;have e1':a.eval x= .bool b1:=e1;have e2':a.eval y= .bool b2:=e2;rw [hid] at hk;cases d<;>try exact hk.elim
     refine ⟨.bool q,?_,rfl⟩;rw [e1',e2',Sem.run_bind,zsf _ _ _ _ _ _ _ (by simp)];exact hc hu w
    split at h
    ·rename_i hid;cases h;exact key _ hid (fun hu w=>run_eql_bool w t b1 b2 hu) rfl
    ·rename_i hid;cases h;exact key _ hid (fun hu w=>run_neq_bool w t b1 b2 hu) rfl
    ·cases h
   ·cases h
  ·
   rename_i e u xs g;split at h
   ·rename_i i hti;have ht:=hE.ti t i hti;obtain ⟨d,hu,hk⟩:=ht.und;have key:∀(q:Bool) (e':TypeId),i.d= .slice e'→xs≠[]→(∀w (ad:Addr) n c,X.P.underlying t=some (.slice e')→(binOp op t (.slice (some ad) n c) (.slice none 0 0)).run X.P w= .ok (.bool q) w)→σ'=σ.put o.dst (.sv (.one (.bool q)))→zbm X o σ σ':=by
     intro q e' hid hx hc hσ;refine fin (.bool q) hσ fun A a w hi=> ?_
     obtain ⟨e1,e2⟩:=ex A a w hi;obtain ⟨ad,cap,he,_,hs⟩:=ymz hi e1;have e2':a.eval y= .slice none 0 0:=e2;rcases hs with hs|⟨b,news,rfl,_⟩
     ·exact absurd hs hx
     rw [hid] at hk;cases d<;>try exact hk.elim
     have hk':e'=_:=hk;subst hk';refine ⟨.bool q,?_,rfl⟩;rw [he,e2',Sem.run_bind,zsf _ _ _ _ _ _ _ (by simp)];exact hc w b _ _ hu
    split at h
    ·rename_i hid;cases h;exact key false _ hid (by simp) (fun w ad n c hu=>by simp only [binOp];simp [run_equal_slice_nil w t _ (some ad) n c hu]) rfl
    ·rename_i hid;cases h;exact key true _ hid (by simp) (fun w ad n c hu=>by simp only [binOp];simp [run_equal_slice_nil w t _ (some ad) n c hu]) rfl
    ·cases h
   ·cases h
  ·
   rename_i cs1 cs2;split at h
   ·rename_i i hti;have ht:=hE.ti t i hti;split at h
    ·rename_i heq;split at h
     ·rename_i u hty;obtain ⟨hfl,heqs⟩:=ht.eq heq u hty;have key:∀(p q:u.den) (r:Bool),u.ofPC cs1=some p→u.ofPC cs2=some q→(∀w,(binOp op t (.agg (zbg u p).toArray) (.agg (zbg u q).toArray)).run X.P w= .ok (.bool r) w)→σ'=σ.put o.dst (.sv (.one (.bool r)))→zbm X o σ σ':=by
       intro p q r hp hq hc hσ;refine fin (.bool r) hσ fun A a w hi=> ?_
       obtain ⟨e1,e2⟩:=ex A a w hi;obtain ⟨vs1,e1',hv1⟩:=e1;obtain ⟨vs2,e2',hv2⟩:=e2;have h1:vs1=zbg u p:=qjt hfl hp hv1;have h2:vs2=zbg u q:=qjt hfl hq hv2;subst h1;subst h2;refine ⟨.bool r,?_,rfl⟩;rw [e1',e2',Sem.run_bind,(heqs w op x y p q).1];exact hc w
      split at h
      ·rename_i p q hp hq;cases h;exact key p q _ hp hq (fun w=>by rw [run_eql_struct,(heqs w .eql x y p q).2];rfl) rfl
      ·rename_i p q hp hq;cases h;exact key p q _ hp hq (fun w=>by rw [run_neq_struct,(heqs w .neq x y p q).2];rfl) rfl
      ·cases h
     ·cases h
    ·cases h
   ·cases h
  ·cases h
 ·cases h
theorem yic {u:Ty} {sz:Nat}:∀{n:Nat} {cs:List PC} {l:List u.den},chunk u sz n cs=some l→l.length=n∧∀i x,l[i]? =some x→u.ofPC ((cs.drop (i*sz)).take sz)=some x
 |0,cs,l,h=>by simp only [chunk,Option.some.injEq] at h;subst h;simp
 |n+1,cs,l,h=>by
  unfold chunk at h;split at h
  ·rename_i x r hx hr;cases h;obtain ⟨h1,h2⟩:=yic hr;refine ⟨by simp [h1],fun i y hy=> ?_⟩;cases i with
   |zero=>simp at hy;subst hy;simpa using hx
   |succ i=>have:=h2 i y (by simpa using hy);rw [List.drop_drop] at this;rw [Nat.add_mul,Nat.one_mul,Nat.add_comm];exact this
  ·cases h
theorem xbs {t:TypeId} {i:TI} (hi:X.E.ti t=some i) (ht:TIOK X.P t i) {F:Nat→Prop} {A:Fr} {w:World} {cs:List PC} {vs:List Value} {off:Nat} {xs:Array Value} {s:SV} (hc:RCs F A w cs vs) (hs:X.E.mkSV t cs=some s)
 (hl:cs.length=i.size) (hx:(xs.toList.drop off).take i.size=vs):∃v,(part t xs off).run X.P w= .ok v w∧RS F A w s v:=by
 unfold Env.mkSV at hs;simp only [hi] at hs;unfold part;simp only [Sem.run_bind,yhi ht,Result.andThen_ok,Sem.run_ite];cases hagg:i.agg with
 |true=>
  simp only [hagg,if_true,Option.some.injEq] at hs;subst hs;have he:xs.extract off (off+i.size)=vs.toArray:=by rw [←hx];refine Array.ext' ?_;simp [List.extract_eq_take_drop]
  exact ⟨.agg vs.toArray,by simp [zwy ht,he],vs,rfl,hc⟩
 |false=>
  simp only [hagg,Bool.false_eq_true,if_false] at hs;cases hc with
  |nil=>simp at hs
  |cons h0 hr=>
   rename_i c0 v0 l0 m0;cases hr with
   |nil=>
    simp only [Option.some.injEq] at hs;subst hs;refine ⟨v0,?_,h0⟩;have:xs[off]? =some v0:=by
     have:=congrArg (·[0]?) hx
     simp only [List.getElem?_take,List.getElem?_drop,List.getElem?_cons_zero] at this;split at this
     ·simpa using this
     ·cases this
    simp [this]
   |cons _ _=>simp at hs
theorem yzp {cs:List PC} (h:zdk cs=[]) {F:Nat→Prop} {A:Fr} {w:World}:∀c∈cs,Plain F A w c:=fun c hc=>by
 cases c with
 |slice e t xs g=>cases g with
  |own n=>have:n∈zdk cs:=List.mem_flatMap.2 ⟨_,hc,List.mem_singleton.2 rfl⟩;rw [h] at this;cases this
  |_=>trivial
 |_=>trivial
theorem ylb {t:TypeId} {x ix:Operand} (hE:zgk X.P X.E) (ho:o.op= .index t x ix) (hd:∀d,o.dst=some d→d<X.n) (h:opK X.E run σ o some=some σ'):zbm X o σ σ':=by
 simp only [opK,ho] at h;split at h
 ·rename_i i hti;have ht:=hE.ti t i hti;obtain ⟨dd,hu,hk⟩:=ht.und;split at h
  ·rename_i s k n hid hex hei;cases hok:zaa n s.size with
   |false=>simp [hok] at h
   |true=>
    simp only [hok,cond_true,Option.some.injEq] at h;subst h;obtain ⟨b,hb1,hb2,h0⟩:=yrf hok;refine .value hd fun A a w hi=> ?_
    have hx:=zah hi x;rw [hex] at hx;have hx':a.eval x= .string s:=hx;have hn:=zah hi ix;rw [hei] at hn;have hn':a.eval ix= .int k n:=hn;rw [hid] at hk;cases dd<;>try exact hk.elim
    refine ⟨.int .u8 b.toNat,?_,by show _=_;rw [←hb2]⟩;simp [execOp,ho,hx',hn',Instr.index,asIntOf,run_underlying hu,h0,hb1]
  ·rename_i m e cs k n hid hex hei;split at h
   ·rename_i ie hte;have hte':=hE.ti e ie hte;split at h
    ·rename_i u hety;split at h
     ·rename_i hcond;obtain ⟨hsz,htags⟩:=hcond;split at h
      ·rename_i l hl;cases hok:zaa n l.length with
       |false=>simp [hok] at h
       |true=>
        simp only [hok,cond_true] at h;obtain ⟨h0,hlt⟩:=qcn hok;obtain ⟨hlen,hget⟩:=yic hl;have hnl:n.toNat<l.length:=by omega
        split at h
        ·rename_i s hs;cases h;refine .value hd fun A a w hi=> ?_
         have hx:=zah hi x;rw [hex] at hx;obtain ⟨vs,hx',hvs⟩:=hx;have hn:=zah hi ix;rw [hei] at hn;have hn':a.eval ix= .int k n:=hn;rw [hid] at hk;cases dd<;>try exact hk.elim
         obtain ⟨rfl,rfl⟩:=hk;have hof:=hget _ _ (ygd hnl);have hcl:Cl (X.F A) w u (rd u l n) ((vs.drop (n.toNat*u.sz)).take u.sz):=RCs.ofPC hof (fun c hc=>yzp htags c (List.mem_of_mem_drop (List.mem_of_mem_take hc))) (zhe (zhf hvs _) _);obtain ⟨v,hr,hv⟩:=xbs hte hte' (hcl.toPC (A:=A)) hs (by rw [qhv];exact hsz.symm) (xs:=vs.toArray) (off:=n.toNat*u.sz) (by rw [hsz]);refine ⟨v,?_,hv⟩;have hb:0≤n∧n<(m:Int):=⟨h0,by rw [hlen] at hlt;exact hlt⟩;simp [execOp,ho,hx',hn',Instr.index,asIntOf,run_underlying hu,hb,zwy hte',hsz,hr]
        ·cases h
      ·cases h
     ·cases h
    ·cases h
   ·cases h
  ·cases h
 ·cases h
end
section
variable {X:Ctx} {run:Runs X.E} {o:Oper} {σ σ':St}
theorem yjf {t:TypeId} {x:Operand} {lo hi mx:Option Operand} (hE:zgk X.P X.E) (hL:quu X.P X.E) (ho:o.op= .slice t x lo hi mx) (hd:∀d,o.dst=some d→d<X.n)
 (h:opK X.E run σ o some=some σ'):zbm X o σ σ':=by
 simp only [opK,ho] at h;split at h
 ·rename_i i hti;have ht:=hE.ti t i hti;cases hpos:(o.pos== "slices.go:428") with
  |true=>
   simp only [hpos,cond_true] at h;split at h
   ·rename_i e u xs g hh d hx hhi hdst;by_cases hty:i.ty=some (.slice e u)
    ·simp only [hty,if_true] at h;cases hok:zbe 0 hh xs.length with
     |false=>simp [hok] at h
     |true=>
      simp only [hok,cond_true,Option.some.injEq] at h;subst h;obtain ⟨q0,q1,q2⟩:=qcx hok;obtain ⟨e',he',ie,hie,hsz⟩:=hL.row t i e u hti hty;intro A a w hi0 hdef next Q hn
      have hv:=zah hi0 x;rw [hx] at hv;have hb:=(zea hi0 hhi (xs.length:Int)).1;have hlen:=qec hok;have hlh:(cut xs 0 hh).length=hh.toNat:=by rw [hlen];simp
      have fin:∀ad cap,a.eval x= .slice ad xs.length cap→xs.length≤cap→(∃A',Inv X A' (σ.kill [g,zcc d 0 0]) a.tmps w∧RC (X.F A') A' w (.slice e u (cut xs 0 hh) (.own (zcc d 0 0))) (.slice ad hh.toNat cap))→
       o.wp X.P a w next Q:=fun ad cap he hcap ⟨A',hi',hc'⟩=>by
       obtain ⟨M,hr,hM,hMc⟩:=qbf (lo:=none) (mx:=none) ht he' hie ad (.inl ⟨rfl,rfl⟩) hb (.inl rfl) q0 q1 q2 hcap w;have hMcap:M=cap:=by
        rcases hMc with ⟨_,h⟩|⟨h,_⟩
        ·exact h
        ·exact absurd rfl h
       subst hMcap;have had:(if M=(0:Int).toNat then ad else ad.map (·.add ((0:Int).toNat*ie.size)))=ad:=by
        split
        ·rfl
        ·cases ad<;>simp [Addr.add]
       refine znr (v:=.slice ad hh.toNat M) (w':=w) ?_ (hn A' _ _ ?_ (by rw [put_defers];exact hdef))
       ·rw [had] at hr;simp only [execOp,ho,he,Option.map_none,Sem.run_bind,hr,Result.andThen_ok];simp
       ·rw [hdst];exact hi'.put (fun d' hd'=>hd d' (by rw [hdst];exact hd')) fun _=>hc'
      rcases hv with ⟨htg,rfl,b,he⟩|⟨b,l,htg,hl,cap,cur,he,hheap,h1,h2,h3,h4⟩
      ·refine fin b 0 he (Nat.le_refl _) ?_;obtain ⟨A',h5,h6⟩:=hi0.kill [g,zcc d 0 0];have h0:hh.toNat=0:=by simp at q2;omega
       refine ⟨A',h5,.inl ⟨?_,by simp [cut],b,by rw [h0]⟩⟩;rcases h6 with ⟨h6,_⟩|rfl
       ·cases h6
       ·simp [Fr.drop,mem,Nat.beq_refl]
      ·subst hl;refine fin _ cap he h1 ⟨_,hi0.ygt (l:=[g,zcc d 0 0]) (n:=zcc d 0 0) (g:=b) (len:=(cut xs 0 hh).length) (by simp) (fun _ _ _=>rfl) hi0.kept (hi0.good.tgm g b _ htg) (Nat.le_refl _) (.inr ⟨g,_,htg,by simp⟩),
        .inr ⟨b,(cut xs 0 hh).length,by simp [Fr.qeg],rfl,cap,cur,by rw [hlh],hheap,by omega,h2,h3,fun k y hk=> ?_⟩⟩
       have:=ylo hk;simp only [Int.toNat_zero,Nat.zero_add] at this;obtain ⟨ds,hds,hc⟩:=h4 k y this;exact ⟨ds,hds.step (zte (fun _ _ _=>rfl) (.inl (.inr (.inr ⟨g,_,htg⟩)))),hc⟩
    ·simp only [hty,if_false] at h;cases h
   ·exact qmm hE hL ho hd hti h
  |false=>simp only [hpos,cond_false] at h;exact qmm hE hL ho hd hti h
 ·cases h
theorem yrw {P:Program} {ty ty' e:TypeId} {k:IntKind} {tt:TypeId} {ti:TypeInfo} {z:Value} (ht:P.underlying ty=some (.slice e)) (ht':P.underlying ty'=some (.int k)) (hi:P.info? e=some ti) (hz:ti.zero=some z) (hs:z.cells.size=ti.size) (hp:0<ti.size)
 (ad:Option Addr) (n:Nat) (hn:n≠0) (hmax:n≤maxLen) (hroom:n*ti.bytes≤140737488355328) (w:World):
 (Builtin.append_ #[ty,ty'] tt #[.slice ad 0 0,.int .i64 n]).run P w=
  .ok (.slice (some ⟨w.heap.size,0,none⟩) n (grownCap w n 0 e)) (w.drew.alloc (.cells (Builtin.zeroCells z.cells n++Builtin.zeroCells z.cells (grownCap w n 0 e-n)) e)):=by
 have hw:IntKind.i64.wrap (n:Int)=(n:Int):=by
  have:n≤9223372036854775807:=by simp only [maxLen] at hmax;omega
  have e1:(n:Int) % 18446744073709551616=n:=by omega
  show (if (true&&decide ((n:Int) % 18446744073709551616≥9223372036854775808))=true then _ else _)=_;rw [if_neg (by simp;omega)];exact e1
 have h63:¬(9223372036854775807<(n:Int)):=by simp only [maxLen] at hmax;omega
 have h48':¬(281474976710656<Builtin.nextslicecap n 0*ti.bytes):=by rw [nextslicecap_zero (by omega)];omega
 have h48:¬(281474976710656<(n:Int)*(ti.bytes:Int)):=by have:((n*ti.bytes:Nat):Int)≤((140737488355328:Nat):Int):=Int.ofNat_le.2 hroom;rw [Int.natCast_mul] at this;omega
 have hns:n*ti.size≠0:=Nat.mul_ne_zero hn (by omega);have h0:¬((n:Int)<0):=by omega
 cases ad<;>simp [Builtin.append_,run_underlying ht,run_underlying ht',sizeOf,typeInfo,zeroValue,hi,hz,asInt,asIntOf,hw,h0,h48,hn,h63,h48',Question.forced,Builtin.firstCells,newRow,grownCap,hns,loadCells,loadCellsFrom]
theorem qyu (z:Array Value) (n i j:Nat) (v:Value) (hi:i<n) (hj:z[j]? =some v):(Builtin.zeroCells z n)[i*z.size+j]? =some v:=by have hjl:=(Array.getElem?_eq_some_iff.1 hj).1;have h1:(i+1)*z.size≤n*z.size:=Nat.mul_le_mul_right _ hi;rw [Nat.add_mul,Nat.one_mul] at h1;unfold Builtin.zeroCells;rw [Array.getElem?_map,Array.getElem?_range,if_pos (by omega),Option.map_some,Nat.mul_comm i,Nat.mul_add_mod,Nat.mod_eq_of_lt hjl,getElem!_def,hj]
theorem yif {c:Call} (hE:zgk X.P X.E) (ho:o.op= .call c) (hc:c.callee= .builtin .append) (hd:∀d,o.dst=some d→d<X.n) (h:opK X.E run σ o some=some σ'):zbm X o σ σ':=by
 simp only [opK,ho,hc] at h;split at h
 ·rename_i s x ty ty' hargs htys;by_cases hty:ty=ty'
  ·subst hty;simp only [if_true] at h;exact ydm hE ho hc hargs htys hd h
  ·simp only [hty,if_false] at h;unfold qkj at h;split at h
   ·rename_i i i' d hti hti' hdst;have ht:=hE.ti ty i hti;obtain ⟨dd,hu,hk⟩:=ht.und;obtain ⟨dd',hu',hk'⟩:=(hE.ti ty' i' hti').und;split at h
    ·rename_i e k e' u hid hid' hity;split at h
     ·rename_i ie e1 u1 xs1 n hte hs hx;have hte':=hE.ti e ie hte;split at h
      ·rename_i hcond;obtain ⟨rfl,rfl,rfl,hpos,hsz,hzu,hety⟩:=hcond;cases hok:(decide (0≤n)&&zai n.toNat ie.bytes) with
       |false=>simp [hok] at h
       |true=>
        simp only [hok,cond_true,Option.some.injEq] at h;subst h;simp only [Bool.and_eq_true,decide_eq_true_eq] at hok;obtain ⟨h0,hroom⟩:=hok;have hroom':=qxj hroom;have hbp:=hte'.pos hpos;intro A a w hi0 hdef next Q hn
        have hv:=zah hi0 s;rw [hs] at hv;obtain ⟨_,ad,he⟩:=hv;have hv2:=zah hi0 x;rw [hx] at hv2;have he2:a.eval x= .int .i64 n:=hv2;rw [hid] at hk;cases dd<;>try exact hk.elim
        have hk2:e1=_:=hk;subst hk2;rw [hid'] at hk';cases dd'<;>try exact hk'.elim
        obtain ⟨ti,hi1,hi2,hi3,z,hz,hzs,hzv⟩:=hte'.info;obtain ⟨m,rfl⟩:=Int.eq_ofNat_of_zero_le h0;simp only [Int.toNat_natCast] at hroom' hn ⊢;have fin:∀v w',(Builtin.append_ #[ty,ty'] o.type #[.slice ad 0 0,.int .i64 m]).run X.P w= .ok v w'→(∃A',Inv X A' (σ.kill [zcc d 0 0]) a.tmps w'∧RC (X.F A') A' w' (.slice e1 u1 (List.replicate m u1.dflt) (.own (zcc d 0 0))) v)→o.wp X.P a w next Q:=fun v w' hr ⟨A',h5,h6⟩=>by
         have hrun:(execOp a.eval o).run X.P w= .ok (.value v) w':=zph ho hc fun consts=>by simp [builtin,qkr hargs,qkr htys,he,he2,hr]
         refine znr hrun (hn A' _ _ ?_ (by rw [put_defers];exact hdef));rw [hdst];exact h5.put (fun d' hd'=>hd d' (by rw [hdst];exact hd')) fun _=>h6
        by_cases hm:m=0
        ·subst hm;obtain ⟨A',h5,h6⟩:=hi0.kill [zcc d 0 0];refine fin (.slice ad 0 0) w ?_ ⟨A',h5,.inl ⟨?_,rfl,ad,rfl⟩⟩
         ·have hw:IntKind.i64.wrap 0=0:=rfl;cases ad<;>simp [Builtin.append_,run_underlying hu,run_underlying hu',sizeOf,typeInfo,hi1,asInt,asIntOf,hw,storeCells]
         ·rcases h6 with ⟨h6,_⟩|rfl
          ·cases h6
          ·simp [Fr.drop,mem,Nat.beq_refl]
        ·have hmax:m≤maxLen:=by have:m*1≤m*ie.bytes:=Nat.mul_le_mul_left _ hbp;simp only [maxLen];omega
         have hr:=yrw (tt:=o.type) hu hu' hi1 hz (by rw [hzs,hi2]) (by omega) ad m hm hmax (by rw [hi3];exact hroom') w;have hge:=grownCap_ge w m 0 e1;have hzc:=hzv u1 hety;have hzl:z.cells.size=u1.sz:=by rw [hzs,hsz]
         obtain ⟨A',h5,h6⟩:=qtn (e:=e1) (rest:=Builtin.zeroCells z.cells (grownCap w m 0 e1-m)) hi0 (l:=[zcc d 0 0]) (n:=zcc d 0 0) (by simp) (zs:=List.replicate m u1.dflt) (cells:=(Builtin.zeroCells z.cells m).toList) (cap:=grownCap w m 0 e1)
          (by simpa using hge) (grownCap_le_maxLen w m 0 e1 hmax) (by simp [Builtin.zeroCells,hzl]) (by simp [Builtin.zeroCells,hzl]) (fun q y hq=>by
           have hql:q<m:=by have:=(List.getElem?_eq_some_iff.1 hq).1;simpa using this
           rw [List.getElem?_replicate,if_pos hql] at hq;cases hq;refine ⟨zjz u1,qyr u1 hzu,fun j v hj=> ?_⟩;rw [←hzc,Array.getElem?_toList] at hj;have:=qyu z.cells m q j v hql hj;rw [hzl] at this
           simpa using this) (w0:=w.drew) (.inr rfl)
         refine fin _ _ hr ⟨A',by simpa using h5,by simpa using h6⟩
      ·cases h
     ·cases h
    ·cases h
   ·cases h
 ·cases h
theorem Inv.ysc {A:Fr} {tm:Array Value} {w:World} (h:Inv X A σ tm w) (d:Nat) (f:PC→PC) (hc:∀c v,RC (X.F A) A w c v→RC (X.F (A.zgf d none)) (A.zgf d none) w (f c) v):
 Inv X (A.zgf d none) ((σ.map f).del d) tm w:=by
 have hF:∀b,X.F (A.zgf d none) b→X.F A b:=fun b hb=>by
  rcases hb with hb|⟨i,hb⟩|hb
  ·exact .inl hb
  ·simp only [Fr.zgf] at hb;split at hb
   ·cases hb
   ·exact .inr (.inl ⟨i,hb⟩)
  ·exact .inr (.inr hb)
 have S:Step (X.F A) (X.F (A.zgf d none)) w w:=⟨fun _ _ _=>rfl,fun b hb=>.inl (hF b hb)⟩;refine ⟨h.sz,h.kept,h.glob.step S,fun i=> ?_,fun d' tid cs hd=> ?_,?_,fun q hq=> ?_⟩
 case refine_4=>obtain ⟨q',hq',rfl⟩:=List.mem_map.1 hq;obtain ⟨v,hv⟩:=h.ent q' hq';exact ⟨v,RP.map hc hv⟩
 ·show RP _ _ _ (St.get (σ.map f) i) _;rw [St.yld];exact RP.map hc (h.slot i)
 ·simp only [St.del] at hd;rw [zqj] at hd;split at hd
  ·cases hd
  ·rename_i hne;simp only [St.map,qpg] at hd;cases hq:getB σ.b d' with
   |none=>simp [hq] at hd
   |some q=>obtain ⟨tid',cs'⟩:=q;simp only [hq,Option.map_some,Option.some.injEq,Prod.mk.injEq] at hd;obtain ⟨rfl,rfl⟩:=hd;obtain ⟨b,vs,h1,h2,h3⟩:=h.box d' tid' cs' hq;exact ⟨b,vs,by simpa [Fr.zgf,hne] using h1,h2,RCs.map hc h3⟩
 ·have key:∀i b,(A.zgf d none).bx i=some b→A.bx i=some b:=fun i b hb=>by
   simp only [Fr.zgf] at hb;split at hb
   ·cases hb
   ·exact hb
  exact ⟨fun i b hb=>h.good.bxm i b (key i b hb),h.good.tgm,fun i j b h1 h2=>h.good.bxi i j b (key _ _ h1) (key _ _ h2),h.good.tgi,fun i n b l h1 h2=>h.good.bt i n b l (key _ _ h1) h2,h.good.f0⟩
theorem yhm {A0:Fr} {tm:Array Value} {w:World} (hi0:Inv X A0 σ tm w) {d:Nat} {tid:TypeId} {cs:List PC} {t:Ty} {y:t.den} (hb:getB σ.b d=some (tid,cs)) (hmt:t.isMap=false) (hy:t.ofPC cs=some y):
 ∃A',Inv X A' (((σ.release (zdk cs)).map (PC.frozen d t y)).del d) tm w∧Step (X.F A0) (X.F A') w w∧∀v,RC (X.F A0) A0 w (.box d 0) v→At (X.F A') w t y v:=by
 obtain ⟨b,vs,hbx,hh,hcs⟩:=hi0.box d tid cs hb;obtain ⟨A1,hi1,hA1,hpl⟩:=zvq hi0 (zdk cs);have hcl:=hpl cs vs.toList hcs (fun _ h=>h) t y hy;have hbx1:A1.bx d=some b:=by rcases hA1 with rfl|rfl<;>exact hbx
 have S1:Step (X.F A0) (X.F A1) w w:=by
  rcases hA1 with rfl|rfl
  ·exact Step.refl _ _
  ·exact Step.drop _ _ _ _
 have hF:∀k,X.F (A1.zgf d none) k→X.F A1 k:=fun k hk=>by
  rcases hk with hk|⟨i,hk⟩|hk
  ·exact .inl hk
  ·simp only [Fr.zgf] at hk;split at hk
   ·cases hk
   ·exact .inr (.inl ⟨i,hk⟩)
  ·exact .inr (.inr hk)
 have S2:Step (X.F A1) (X.F (A1.zgf d none)) w w:=⟨fun _ _ _=>rfl,fun k hk=>.inl (hF k hk)⟩;have hnot:¬X.F (A1.zgf d none) b:=by
  rintro (hf|⟨i,hf⟩|⟨n,l,hf⟩)
  ·exact hi1.good.f0m (hi1.good.bxm d b hbx1).1 hf
  ·simp only [Fr.zgf] at hf;split at hf
   ·cases hf
   ·rename_i hne;exact hne (hi1.good.bxi i d b hf hbx1)
  ·exact hi1.good.bt d n b l hbx1 hf
 have hAt:∀v,v= .pointer (some ⟨b,0,none⟩)→At (X.F (A1.zgf d none)) w t y v:=fun v hv=>.inl ⟨hmt,⟨b,0,none⟩,vs.toList,hv,hnot,hcl.step S2,fun j u hj=>by rw [zjf,cell_of_block hh];simpa using hj⟩
 refine ⟨A1.zgf d none,hi1.ysc d _ (fun c v hc=> ?_),⟨fun _ _ _=>rfl,fun k hk=>by
  rcases S1.sub k (hF k hk) with h|h
  ·exact .inl h
  ·exact .inr h⟩,fun v hv=> ?_⟩
 ·cases c with
  |slice e t xs g=>cases g with
   |own n=>exact RC.step S2 ⟨fun h=>h,fun g k hg=>⟨hg,rfl⟩⟩ hc
   |_=>exact RC.step S2 trivial hc
  |elemT u n i o=>exact RC.step S2 (fun g k hg=>hg) hc
  |box d' o=>
   show RC _ _ _ (bif Nat.beq d' d then (bif Nat.beq o 0 then .elem t y else .dead) else .box d' o) v;cases hbq:Nat.beq d' d with
   |true=>
    have:=Nat.eq_of_beq_eq_true hbq;subst this;cases ho:Nat.beq o 0 with
    |true=>have:=Nat.eq_of_beq_eq_true ho;subst this;obtain ⟨b',hb',hv⟩:=hc;rw [hbx1] at hb';cases hb';exact hAt v hv
    |false=>exact RC.one hc
   |false=>
    show RC _ _ _ (.box d' o) v;have hne:d'≠d:=fun e=>by rw [e,Nat.beq_refl] at hbq;cases hbq
    exact RC.step S2 (fun b hb=>by simpa [Fr.zgf,hne] using hb) hc
  |pin br f=>
   show RC _ _ _ (bif Nat.beq 3 d then .dead else .pin br f) v;cases hbq:Nat.beq 3 d with
   |true=>exact RC.one hc
   |false=>
    show RC _ _ _ (.pin br f) v;have hne:3≠d:=fun e=>by rw [←e] at hbq;cases hbq
    exact RC.step S2 (fun b hb=>by simpa [Fr.zgf,hne] using hb) hc
  |pinp br f=>
   show RC _ _ _ (bif Nat.beq 3 d then .dead else .pinp br f) v;cases hbq:Nat.beq 3 d with
   |true=>exact RC.one hc
   |false=>
    show RC _ _ _ (.pinp br f) v;have hne:3≠d:=fun e=>by rw [←e] at hbq;cases hbq
    exact RC.step S2 (fun b hb=>by simpa [Fr.zgf,hne] using hb) hc
  |_=>exact RC.step S2 trivial hc
 ·obtain ⟨b',hb',hv⟩:=hv;rw [hbx] at hb';cases hb';exact hAt v hv
theorem qmc {a:Act} {w:World}:∀{ops:List Operand} {σ σ':St} {A:Fr} {l:List Cap},Inv X A σ a.tmps w→qym X.E σ ops=some (σ',l)→
 ∃A',Inv X A' σ' a.tmps w∧Step (X.F A) (X.F A') w w∧All2 (RCap (X.F A') w) l (ops.map a.eval)
 |[],σ,σ',A,l,hi,h=>by simp only [qym,Option.some.injEq,Prod.mk.injEq] at h;obtain ⟨rfl,rfl⟩:=h;exact ⟨A,hi,Step.refl _ _,.nil⟩
 |x::r,σ,σ',A,l,hi,h=>by
  have trans:∀{F F' F'':Nat→Prop},Step F F' w w→Step F' F'' w w→Step F F'' w w:=fun h1 h2=>⟨fun _ _ _=>rfl,fun b hb=>by
   rcases h2.sub b hb with h|h
   ·exact h1.sub b h
   ·exact .inr h⟩
  have hx:=zah hi x;simp only [qym] at h;split at h
  ·rename_i d hev;rw [hev] at hx;split at h
   ·rename_i tid cs hb;split at h
    ·rename_i t hty;split at h
     ·rename_i y hy;cases hmt:t.isMap with
      |true=>simp [hmt] at h
      |false=>
      simp only [hmt,cond_false] at h;split at h
      ·rename_i σ1 l1 hr;cases h;obtain ⟨A1,h1,h2,h3⟩:=yhm hi hb hmt hy;obtain ⟨A2,h4,h5,h6⟩:=qmc h1 hr;exact ⟨A2,h4,trans h2 h5,.cons (RCap.step h5 (c:=⟨true,t,y⟩) (h3 _ hx)) h6⟩
      ·cases h
     ·cases h
    ·cases h
   ·cases h
  ·rename_i t y hev;rw [hev] at hx;split at h
   ·rename_i σ1 l1 hr;cases h;obtain ⟨A2,h4,h5,h6⟩:=qmc hi hr;exact ⟨A2,h4,h5,.cons (RCap.step h5 (c:=⟨true,t,y⟩) hx) h6⟩
   ·cases h
  ·cases h
theorem qwj {f:Fn} {first captured:Array Operand} (ho:o.op= .makeFunc f first captured) (hd:∀d,o.dst=some d→d<X.n) (h:opK X.E run σ o some=some σ'):zbm X o σ σ':=by
 cases f with
 |func f=>
  simp only [opK,ho] at h;split at h
  ·rename_i σ1 l hfirst hcaps;cases h;intro A a w hi0 hdef next Q hn
   obtain ⟨A',h1,_,h3⟩:=qmc (a:=a) hi0 hcaps;have hf:first= #[]:=qkr hfirst
   subst hf;refine znr (v:=.func (.func f) #[] (captured.toList.map a.eval).toArray) (w':=w) ?_ (hn A' _ _ (h1.put hd fun _=>⟨_,rfl,h3⟩) (by rw [put_defers];exact hdef));have:captured.map a.eval=(captured.toList.map a.eval).toArray:=Array.ext' (by simp);simp [execOp,ho,Instr.makeFunc,this]
  ·cases h
 |_=>simp [opK,ho] at h
end
inductive Same:PC→PC→Prop where
 |slice (e:TypeId) (t:Ty) (xs:List t.den) (g:Tag):Same (.slice e t xs g) (.slice e t xs .no)
 |nilS (e:TypeId) (t:Ty):Same .nilS (.slice e t [] .no)
 |clo (f:Nat):Same (.clo f []) (.fnv ⟨f,[]⟩)
 |bool (b:Bool):Same (.bool b) (.bool b)
 |int (k:IntKind) (n:Int):Same (.int k n) (.int k n)
 |str (s:ByteArray):Same (.str s) (.str s)
theorem All2.append {α β:Type} {R:α→β→Prop} {a b:List α} {c d:List β} (h:All2 R a c) (k:All2 R b d):All2 R (a++b) (c++d):=by
 induction h with
 |nil=>exact k
 |cons h0 _ ih=>exact .cons h0 ih
theorem qrg:∀{t:Ty} {x:t.den} {cs:List PC},t.ofPC cs=some x→All2 Same cs (t.toPC x)
 | .bool,x,cs,h=>by obtain rfl:=qui h;exact .cons (.bool _) .nil
 | .int k,x,cs,h=>by obtain rfl:=ycp h;exact .cons (.int _ _) .nil
 | .str,x,cs,h=>by obtain rfl:=qzr h;exact .cons (.str _) .nil
 | .fn,x,cs,h=>by obtain rfl:=ylf h;exact .cons (.clo _) .nil
 | .slice e t,xs,cs,h=>by
   rcases ync h with ⟨rfl,rfl⟩|⟨g,rfl⟩
   ·exact .cons (.nilS e t) .nil
   ·exact .cons (.slice e t xs g) .nil
 | .pair a b,x,cs,h=>by
   unfold Ty.ofPC at h;split at h
   ·rename_i x1 y1 h1 h2;cases h;have:=(qrg h1).append (qrg h2);rw [List.take_append_drop] at this;exact this
   ·cases h
def ykv:List (Option Nat×Nat)→Nat→Option Nat
 |[],_=>none
 |(s,d)::r,m=>if d=m then s else ykv r m
def yck:List (Nat×Nat)→Nat→Option Nat
 |[],_=>none
 |(s,d)::r,m=>if d=m then some s else yck r m
theorem nodup_cons {x:Nat} {r:List Nat} (h:nodup (x::r)=true):x∉r∧nodup r=true:=by simp only [nodup,Bool.and_eq_true,Bool.not_eq_true'] at h;exact ⟨fun hx=>by (have h1:=h.1;rw [mem_iff.2 hx] at h1;cases h1),h.2⟩
theorem qjf:∀{l:List (Option Nat×Nat)} {s:Option Nat} {m:Nat},nodup (l.map (·.2))=true→(s,m)∈l→ykv l m=s
 |(s',d)::r,s,m,hn,h=>by
  obtain ⟨h1,h2⟩:=nodup_cons hn;unfold ykv;rcases List.mem_cons.1 h with h|h
  ·cases h;simp
  ·have hne:d≠m:=fun e=>h1 (e▸List.mem_map.2 ⟨(s,m),h,rfl⟩)
   rw [if_neg hne];exact qjf h2 h
theorem qxv:∀{l:List (Option Nat×Nat)} {s:Nat} {m:Nat},ykv l m=some s→(some s,m)∈l
 |(s',d)::r,s,m,h=>by
  unfold ykv at h;split at h
  ·rename_i e;rw [h,e];exact List.mem_cons_self ..
  ·exact List.mem_cons_of_mem _ (qxv h)
theorem qtc:∀{l:List (Nat×Nat)} {s m:Nat},nodup (l.map (·.2))=true→(s,m)∈l→yck l m=some s
 |(s',d)::r,s,m,hn,h=>by
  obtain ⟨h1,h2⟩:=nodup_cons hn;unfold yck;rcases List.mem_cons.1 h with h|h
  ·cases h;simp
  ·have hne:d≠m:=fun e=>h1 (e▸List.mem_map.2 ⟨(s,m),h,rfl⟩)
   rw [if_neg hne];exact qtc h2 h
theorem qxw:∀{l:List (Nat×Nat)} {s m:Nat},yck l m=some s→(s,m)∈l
 |(s',d)::r,s,m,h=>by
  unfold yck at h;split at h
  ·rename_i e;cases h;rw [e];exact List.mem_cons_self ..
  ·exact List.mem_cons_of_mem _ (qxw h)
theorem ygs:∀{l:List (Nat×Nat)} {s d d':Nat},nodup (l.map (·.1))=true→(s,d)∈l→(s,d')∈l→d=d'
 |(p,q)::r,s,d,d',hn,h,h'=>by
  obtain ⟨h1,h2⟩:=nodup_cons hn;rcases List.mem_cons.1 h with h|h<;>rcases List.mem_cons.1 h' with h'|h'
  ·cases h;cases h';rfl
  ·cases h;exact absurd (List.mem_map.2 ⟨_,h',rfl⟩) h1
  ·cases h';exact absurd (List.mem_map.2 ⟨_,h,rfl⟩) h1
  ·exact ygs h2 h h'
theorem qby:∀{l:List (Option Nat×Nat)} {s d d':Nat},nodup (l.filterMap (·.1))=true→(some s,d)∈l→(some s,d')∈l→d=d'
 |(none,q)::r,s,d,d',hn,h,h'=>by
  simp only [List.filterMap_cons] at hn;rcases List.mem_cons.1 h with h|h
  ·cases h
  ·rcases List.mem_cons.1 h' with h'|h'
   ·cases h'
   ·exact qby hn h h'
 |(some p,q)::r,s,d,d',hn,h,h'=>by
  simp only [List.filterMap_cons] at hn;obtain ⟨h1,h2⟩:=nodup_cons hn;rcases List.mem_cons.1 h with h|h<;>rcases List.mem_cons.1 h' with h'|h'
  ·cases h;cases h';rfl
  ·cases h;exact (h1 (List.mem_filterMap.2 ⟨_,h',rfl⟩)).elim
  ·cases h';exact (h1 (List.mem_filterMap.2 ⟨_,h,rfl⟩)).elim
  ·exact qby h2 h h'
def Hand.fr (h:Hand) (A:Fr):Fr:=⟨fun d=>(yck h.rb d).bind A.bx,fun m=>(ykv h.ren m).bind A.tg⟩
structure Hand.Sub (h H:Hand):Prop where
 ren:∀e∈h.ren,e∈H.ren
 pl:∀e∈h.pl,e∈H.pl
 rb:∀e∈h.rb,e∈H.rb
 pm:∀e∈h.pm,e∈H.pm
theorem Hand.Sub.refl (h:Hand):h.Sub h:=⟨fun _ h=>h,fun _ h=>h,fun _ h=>h,fun _ h=>h⟩
theorem Hand.Sub.trans {a b c:Hand} (h:a.Sub b) (k:b.Sub c):a.Sub c:=⟨fun e he=>k.ren e (h.ren e he),fun e he=>k.pl e (h.pl e he),fun e he=>k.rb e (h.rb e he),fun e he=>k.pm e (h.pm e he)⟩
structure Hand.OK (h:Hand):Prop where
 dst:nodup (h.ren.map (·.2))=true
 src:nodup h.srcs=true
 b1:nodup (h.rb.map (·.1))=true
 b2:nodup (h.rb.map (·.2))=true
 pl:∀x∈h.pl,x∉h.srcs
 pm:∀x∈h.pm,x∉h.rb.map (·.1)
theorem Hand.yvf {h:Hand} (hk:h.ok=true):h.OK:=by unfold Hand.ok at hk;simp only [Bool.and_eq_true,List.all_eq_true,Bool.not_eq_true'] at hk;obtain ⟨h1,h2,h3,h4,h5,h6⟩:=hk;exact ⟨h1,h2,h3,h4,fun x hx hm=>by (have h7:=h5 x hx;rw [mem_iff.2 hm] at h7;cases h7),fun x hx hm=>by (have h7:=h6 x hx;rw [mem_iff.2 hm] at h7;cases h7)⟩
theorem yiw {h h':Hand} {q:Option Nat×Nat} (k:({h with ren:=q::h.ren}:Hand).Sub h'):h.Sub h':=⟨fun e he=>k.ren e (List.mem_cons_of_mem _ he),k.pl,k.rb,k.pm⟩
theorem xjh {h h':Hand} {q:List Nat} (k:({h with pl:=q++h.pl}:Hand).Sub h'):h.Sub h':=⟨k.ren,fun e he=>k.pl e (List.mem_append_right _ he),k.rb,k.pm⟩
theorem xjg {h h':Hand} {q:Nat×Nat} (k:({h with rb:=q::h.rb}:Hand).Sub h'):h.Sub h':=⟨k.ren,k.pl,fun e he=>k.rb e (List.mem_cons_of_mem _ he),k.pm⟩
theorem zbs:∀{own:List Nat} {slot j k:Nat} {cs:List PC} {h h':Hand},zbx own slot j k cs h=some h'→h.Sub h'
 |own,slot,j,k,[],h,h',e=>by simp only [zbx,Option.some.injEq] at e;subst e;exact .refl _
 |own,slot,j,k,c::r,h,h',e=>by
  cases c with
  |slice e1 t xs g=>
   simp only [zbx] at e;cases hm:mem own k with
   |true=>
    simp only [hm,cond_true] at e;cases g with
    |own n=>exact yiw (zbs e)
    |nil=>exact yiw (zbs e)
    |_=>cases e
   |false=>simp only [hm,cond_false] at e;exact xjh (zbs e)
  |nilS=>
   simp only [zbx] at e;cases hm:mem own k with
   |true=>simp only [hm,cond_true] at e;exact yiw (zbs e)
   |false=>simp only [hm,cond_false] at e;exact zbs e
  |_=>simp only [zbx] at e;exact zbs e
section
variable {X:Ctx} {σ:St}
structure Fits (X:Ctx) (A:Fr) (w:World) (H:Hand) (F':Nat→Prop):Prop where
 step:Step (X.F A) F' w w
 pl:∀m∈H.pl,∀b l,A.tg m=some (b,l)→¬F' b
 pm:∀d∈H.pm,∀b,A.bx d=some b→¬F' b
theorem zjt {A:Fr} {w:World} {H:Hand} {F':Nat→Prop} (hg:Good X A w) (hH:H.OK) (hf:Fits X A w H F'):
 ∀{own:List Nat} {slot j k:Nat} {cs cs':List PC} {h h':Hand} {vs:List Value},zbx own slot j k cs h=some h'→h'.Sub H→All2 Same cs cs'→RCs (X.F A) A w cs vs→RCs F' (H.fr A) w (zti own slot j k cs') vs
 |own,slot,j,k,[],cs',h,h',vs,e,hs,hc,hr=>by cases hc;cases hr;exact .nil
 |own,slot,j,k,c::r,c'::r',h,h',v::vs,e,hs,.cons hc0 hc,.cons hr0 hr=>by
  have plain:∀{e1:TypeId} {t:Ty} {xs:List t.den} {g:Tag},(∀n,g= .own n→n∈H.pl)→RC (X.F A) A w (.slice e1 t xs g) v→RC F' (H.fr A) w (.slice e1 t xs .no) v:=fun hgn hv=>by
   have h1:RC F' A w (.slice _ _ _ _) v:=RC.step hf.step ((Ext.refl A w).stays _) hv;refine RC.qqw (A:=A) (w:=w) (F:=F') ?_ h1;rename_i g;cases g with
   |own n=>exact fun b l hb=>⟨hf.pl n (hgn n rfl) b l hb,(hg.tgm n b l hb).2⟩
   |_=>trivial
  cases hc0 with
  |slice e1 t xs g=>
   simp only [zbx] at e;simp only [zti];cases hm:mem own k with
   |true=>
    simp only [hm,cond_true] at e ⊢;cases g with
    |own n=>
     refine .cons ?_ (zjt hg hH hf e hs hc hr);have hin:(some n,zcc slot j k)∈H.ren:=(zbs e |>.trans hs).ren _ (List.mem_cons_self ..);have hl:(H.fr A).tg (zcc slot j k)=A.tg n:=by simp [Hand.fr,qjf hH.dst hin]
     rcases hr0 with ⟨h1,h2⟩|⟨b,l,h1,h2⟩
     ·exact .inl ⟨hl.trans h1,h2⟩
     ·exact .inr ⟨b,l,hl.trans h1,h2.step hf.step rfl⟩
    |nil=>
     refine .cons ?_ (zjt hg hH hf e hs hc hr);have hin:(none,zcc slot j k)∈H.ren:=(zbs e |>.trans hs).ren _ (List.mem_cons_self ..);have hl:(H.fr A).tg (zcc slot j k)=none:=by simp [Hand.fr,qjf hH.dst hin]
     exact .inl ⟨hl,hr0⟩
    |_=>cases e
   |false=>simp only [hm,cond_false] at e ⊢;refine .cons ?_ (zjt hg hH hf e hs hc hr);refine plain (fun n hn=> ?_) hr0;subst hn;exact (zbs e |>.trans hs).pl _ (List.mem_append_left _ (List.mem_singleton.2 rfl))
  |nilS e1 t=>
   have hv:v= .slice none 0 0:=hr0;simp only [zbx] at e;simp only [zti];cases hm:mem own k with
   |true=>
    simp only [hm,cond_true] at e ⊢;refine .cons ?_ (zjt hg hH hf e hs hc hr);have hin:(none,zcc slot j k)∈H.ren:=(zbs e |>.trans hs).ren _ (List.mem_cons_self ..);have hl:(H.fr A).tg (zcc slot j k)=none:=by simp [Hand.fr,qjf hH.dst hin]
    exact .inl ⟨hl,rfl,none,hv⟩
   |false=>simp only [hm,cond_false] at e ⊢;refine .cons ?_ (zjt hg hH hf e hs hc hr);show Cl _ _ _ _ _;rw [Cl];exact ⟨none,0,by rw [hv];rfl,Nat.le_refl _,.inl rfl⟩
  |clo f=>simp only [zbx] at e;simp only [zti];exact .cons (RFn.step hf.step hr0) (zjt hg hH hf e hs hc hr)
  |_=>simp only [zbx] at e;simp only [zti];exact .cons hr0 (zjt hg hH hf e hs hc hr)
theorem zsn {A:Fr} {tm:Array Value} {w:World} {H:Hand} {F':Nat→Prop} (hi:Inv X A σ tm w) (hH:H.OK) (hf:Fits X A w H F') {slot j:Nat} {k:Kd} {s:SV} {h h':Hand} {x:k.den} {v:Value}
 (he:k.hand σ slot j s h=some h') (hs:h'.Sub H) (hp:k.pack σ s=some x) (hv:RS (X.F A) A w s v):RS F' (H.fr A) w (k.unpack slot j x) v:=by
 have elemc:∀{t:Ty} {y:t.den},RC (X.F A) A w (.elem t y) v→RS F' (H.fr A) w (.one (.elem t y)) v:=fun hc=>At.step hf.step hc
 cases k with
 |v t own=>
  cases s with
  |one c=>
   cases hq:t.zke with
   |true=>simp [Kd.pack,hq] at hp
   |false=>
    simp only [Kd.pack,hq,cond_false] at hp;have hl:=zjt hi.good hH hf (own:=own) (slot:=slot) (j:=j) he hs (qrg hp) (.cons hv .nil);simp only [Kd.unpack,hq,cond_false];generalize zti own slot j 0 (t.toPC x)=L at hl;cases hl with
    |cons h0 ht=>cases ht;exact h0
  |agg cs=>
   cases hq:t.zke with
   |false=>simp [Kd.pack,hq] at hp
   |true=>simp only [Kd.pack,hq,cond_true] at hp;obtain ⟨vs,rfl,hvs⟩:=hv;have hl:=zjt hi.good hH hf (own:=own) (slot:=slot) (j:=j) he hs (qrg hp) hvs;simp only [Kd.unpack,hq,cond_true];exact ⟨vs,rfl,hl⟩
 |n e t=>
  simp only [Kd.unpack];cases s with
  |agg cs=>simp [Kd.pack] at hp
  |one c=>
   cases c with
   |nilS=>have:v= .slice none 0 0:=hv;rw [this];exact ⟨rfl,none,rfl⟩
   |slice e' t' xs g=>
    cases g with
    |nil=>exact ⟨rfl,hv.2⟩
    |_=>simp [Kd.pack] at hp
   |_=>simp [Kd.pack] at hp
 |p t=>
  simp only [Kd.unpack];cases s with
  |agg cs=>simp [Kd.pack] at hp
  |one c=>
   cases c with
   |elem t' y=>
    simp only [Kd.pack] at hp;split at hp
    ·rename_i ht;subst ht;cases hp;exact elemc hv
    ·cases hp
   |box d o=>
    simp only [Kd.pack] at hp;simp only [Kd.hand] at he;split at hp
    ·rename_i tid cs hb;simp only [hb,Option.some.injEq] at he;subst he;obtain ⟨b,hbx,hvb⟩:=hv;obtain ⟨b',vs,hbx',hh,hcs⟩:=hi.box d tid cs hb;rw [hbx] at hbx';cases hbx';have hnb:¬F' b:=hf.pm d (hs.pm d (List.mem_cons_self ..)) b hbx;cases hmt:t.isMap with
     |true=>simp [hmt] at hp
     |false=>
     simp only [hmt,cond_false] at hp;refine .inl ⟨hmt,⟨b,o,none⟩,(vs.toList.drop o).take t.sz,hvb,hnb,?_,fun q u hq=> ?_⟩
     ·have hc':RCs F' A w ((cs.drop o).take t.sz) ((vs.toList.drop o).take t.sz):=RCs.step hf.step (fun c _=>(Ext.refl A w).stays c) (zhe (zhf hcs o) t.sz);refine RCs.ofPC hp (fun c hc=> ?_) hc';cases c with
      |slice e1 t1 xs1 g=>cases g with
       |own m=>exact fun g1 l1 hg1=>⟨hf.pl m (hs.pl m (List.mem_append_left _ (List.mem_flatMap.2 ⟨_,hc,List.mem_singleton.2 rfl⟩))) g1 l1 hg1,(hi.good.tgm m g1 l1 hg1).2⟩
       |_=>trivial
      |_=>trivial
     ·rw [zjf,cell_of_block hh]
      simpa using zoh _ _ _ _ _ hq
    ·cases hp
   |_=>simp [Kd.pack] at hp
 |b t tid own=>
  simp only [Kd.unpack];cases s with
  |agg cs=>simp [Kd.pack] at hp
  |one c=>
   cases c with
   |box d o=>
    cases o with
    |succ o=>simp [Kd.pack] at hp
    |zero=>
     simp only [Kd.hand] at he;split at he
     ·have hin:(d,slot)∈H.rb:=(zbs he |>.trans hs).rb _ (List.mem_cons_self ..);obtain ⟨b,hbx,hvb⟩:=hv;exact ⟨b,by simp [Hand.fr,qtc hH.b2 hin,hbx],hvb⟩
     ·cases he
   |_=>simp [Kd.pack] at hp
 |f=>
  simp only [Kd.unpack];cases s with
  |agg cs=>simp [Kd.pack] at hp
  |one c=>
   cases c with
   |fnv q=>simp only [Kd.pack,Option.some.injEq] at hp;subst hp;exact RFn.step hf.step hv
   |clo g caps=>simp only [Kd.pack,Option.some.injEq] at hp;subst hp;exact RFn.step hf.step hv
   |_=>simp [Kd.pack] at hp
end
theorem xck {σ:St} {slot j:Nat} {k:Kd} {s:SV} {h h':Hand} (e:k.hand σ slot j s h=some h'):h.Sub h':=by
 cases k with
 |v t own=>simp only [Kd.hand] at e;exact zbs e
 |n _ _=>simp only [Kd.hand,Option.some.injEq] at e;subst e;exact .refl _
 |f=>simp only [Kd.hand,Option.some.injEq] at e;subst e;exact .refl _
 |p t=>
  cases s with
  |agg cs=>simp only [Kd.hand,Option.some.injEq] at e;subst e;exact .refl _
  |one c=>
   cases c with
   |box d o=>
    simp only [Kd.hand] at e;split at e
    ·cases e;exact ⟨fun _ h=>h,fun _ h=>List.mem_append_right _ h,fun _ h=>h,fun _ h=>List.mem_cons_of_mem _ h⟩
    ·cases e
   |_=>simp only [Kd.hand,Option.some.injEq] at e;subst e;exact .refl _
 |b t tid own=>
  cases s with
  |agg cs=>simp [Kd.hand] at e
  |one c=>
   cases c with
   |box d o=>
    cases o with
    |succ o=>simp [Kd.hand] at e
    |zero=>
     simp only [Kd.hand] at e;split at e
     ·exact xjg (zbs e)
     ·cases e
   |_=>simp [Kd.hand] at e
theorem zpe {σ:St}:∀{ks:List (Nat×Nat×Kd)} {l:List SV} {h h':Hand},zef σ ks l h=some h'→h.Sub h'
 |[],l,h,h',e=>by cases l<;>simp only [zef,Option.some.injEq] at e<;>subst e<;>exact .refl _
 |(i,j,k)::ks,[],h,h',e=>by simp only [zef,Option.some.injEq] at e;subst e;exact .refl _
 |(i,j,k)::ks,s::ss,h,h',e=>by
  simp only [zef] at e;split at e
  ·rename_i h1 h2;exact (xck h2).trans (zpe e)
  ·cases e
theorem yob:∀{l:List (Nat×(TypeId×List PC))} {i:Nat} {v:TypeId×List PC},getB l i=some v→(i,v)∈l
 |(j,q)::r,i,v,h=>by
  simp only [getB] at h;cases hb:Nat.beq j i with
  |true=>simp only [hb,cond_true,Option.some.injEq] at h;rw [Nat.eq_of_beq_eq_true hb,h];exact List.mem_cons_self ..
  |false=>simp only [hb,cond_false] at h;exact List.mem_cons_of_mem _ (yob h)
theorem qjs:∀(l:List (Nat×PV)) (i:Nat),getS l i= .undef∨(i,getS l i)∈l
 |[],i=>.inl rfl
 |(j,q)::r,i=>by
  simp only [getS];cases hb:Nat.beq j i with
  |true=>right;rw [Nat.eq_of_beq_eq_true hb];exact List.mem_cons_self ..
  |false=>
   rcases qjs r i with h|h
   ·exact .inl h
   ·exact .inr (List.mem_cons_of_mem _ h)
section
variable {X:Ctx} {σ:St}
theorem yom {A:Fr} {tm:Array Value} {w:World} {H:Hand} {F':Nat→Prop} (hi:Inv X A σ tm w) (hH:H.OK) (hf:Fits X A w H F') {slot j:Nat} {t:Ty} {tid:TypeId} {own:List Nat} {s:SV} {h h':Hand} {x:t.den} {v:Value}
 (he:(Kd.b t tid own).hand σ slot j s h=some h') (hs:h'.Sub H) (hp:(Kd.b t tid own).pack σ s=some x):
 ∃b vs,(H.fr A).bx slot=some b∧w.heap[b]? =some (.cells vs tid (0,0))∧RCs F' (H.fr A) w (zti own slot 0 0 (t.toPC x)) vs.toList:=by
 cases s with
 |agg cs=>simp [Kd.pack] at hp
 |one c=>
  cases c with
  |box d o=>
   cases o with
   |succ o=>simp [Kd.pack] at hp
   |zero=>
    simp only [Kd.hand] at he;simp only [Kd.pack] at hp;split at he
    ·rename_i tid' cs hb;simp only [hb] at hp;split at hp
     ·rename_i ht;subst ht;have hin:(d,slot)∈H.rb:=(zbs he |>.trans hs).rb _ (List.mem_cons_self ..);obtain ⟨b,vs,hbx,hh,hcs⟩:=hi.box d _ cs hb;exact ⟨b,vs,by simp [Hand.fr,qtc hH.b2 hin,hbx],hh,zjt hi.good hH hf he hs (qrg hp) hcs⟩
     ·cases hp
    ·cases he
  |_=>simp [Kd.pack] at hp
theorem yle {H:Hand} {A:Fr} {d b:Nat} (h:(H.fr A).bx d=some b):∃s,(s,d)∈H.rb∧A.bx s=some b:=by
 simp only [Hand.fr] at h;cases hl:yck H.rb d with
 |none=>simp [hl] at h
 |some s=>simp only [hl,Option.bind_some] at h;exact ⟨s,qxw hl,h⟩
theorem zzm {H:Hand} {A:Fr} {m b l:Nat} (h:(H.fr A).tg m=some (b,l)):∃n,(some n,m)∈H.ren∧A.tg n=some (b,l):=by
 simp only [Hand.fr] at h;cases hl:ykv H.ren m with
 |none=>simp [hl] at h
 |some s=>simp only [hl,Option.bind_some] at h;exact ⟨s,qxv hl,h⟩
theorem yav {H:Hand} {n m:Nat} (h:(some n,m)∈H.ren):n∈H.srcs:=List.mem_filterMap.2 ⟨_,h,rfl⟩
theorem qqs {A:Fr} {tm:Array Value} {w:World} {H:Hand} {F':Nat→Prop} (hi:Inv X A σ tm w) (hH:H.OK) (hf:Fits X A w H F'):∀{hs:Shape} {l:List SV} {h h':Hand} {x:Tup hs.ks},
 qii σ hs=some l→zef σ (zsg hs) l h=some h'→h'.Sub H→zdl σ hs.ks l=some x→
 (∀p∈slotsOf hs x,RP F' (H.fr A) w p.2 (tm.getD p.1 undef))∧∀p∈qdb hs x,∃b vs,(H.fr A).bx p.1=some b∧w.heap[b]? =some (.cells vs p.2.1 (0,0))∧RCs F' (H.fr A) w p.2.2 vs.toList
 |[],l,h,h',x,h1,h2,h3,h4=>⟨fun p hp=>(List.not_mem_nil hp).elim,fun p hp=>(List.not_mem_nil hp).elim⟩
 |[(i,k)],l,h,h',x,h1,h2,h3,h4=>by
  simp only [qii] at h1;split at h1
  ·rename_i s l' hs hl';cases hl';cases h1;simp only [zsg,zef] at h2;split at h2
   ·rename_i h5 h6;have h2':=h2;simp only [Option.some.injEq] at h2;subst h2;have h4':k.pack σ s=some x:=h4;have hv:=hi.slot i;rw [hs] at hv;refine ⟨fun p hp=> ?_,fun p hp=> ?_⟩
    ·simp only [slotsOf,List.mem_singleton] at hp;subst hp;exact zsn hi hH hf h6 h3 h4' hv
    ·cases k with
     |b t tid own=>simp only [qdb,List.mem_singleton] at hp;subst hp;exact yom hi hH hf (v:=tm.getD i undef) h6 h3 h4'
     |_=>simp only [qdb] at hp;cases hp
   ·cases h2
  ·cases h1
 |(i,k)::(i',k')::hs,l,h,h',x,h1,h2,h3,h4=>by
  unfold qii at h1;split at h1
  ·rename_i s l' hs' hl';cases h1;simp only [zsg,zef] at h2;split at h2
   ·rename_i h5 h6;have h4':zdl σ (k::k'::Shape.ks hs) (s::l')=some x:=h4;rw [zdl] at h4';split at h4'
    ·rename_i x1 x2 hx1 hx2;cases h4';have hv:=hi.slot i;rw [hs'] at hv;obtain ⟨r1,r2⟩:=qqs hi hH hf (hs:=(i',k')::hs) (x:=x2) hl' (by simpa only [zsg] using h2) h3 hx2;refine ⟨fun p hp=> ?_,fun p hp=> ?_⟩
     ·simp only [slotsOf,List.mem_cons] at hp;rcases hp with rfl|hp
      ·exact zsn hi hH hf h6 ((zpe h2).trans h3) hx1 hv
      ·exact r1 p hp
     ·cases k with
      |b t tid own=>
       simp only [qdb,List.mem_cons] at hp;rcases hp with rfl|hp
       ·exact yom hi hH hf (v:=tm.getD i undef) h6 ((zpe h2).trans h3) hx1
       ·exact r2 p hp
      |_=>simp only [qdb] at hp;exact r2 p hp
    ·cases h4'
   ·cases h2
  ·cases h1
theorem zou {A:Fr} {tm:Array Value} {w:World} (hi:Inv X A σ tm w) {hs:Shape} {x:Tup hs.ks} (h:zks σ hs=some x):∃A',Inv X A' (stOf hs x) tm w:=by
 unfold zks at h;split at h
 ·rename_i l hl;split at h
  ·rename_i H hH;unfold handed at hH;split at hH
   ·rename_i H' hH';cases hok:H'.ok with
    |false=>simp [hok] at hH
    |true=>
     simp only [hok,cond_true,Option.some.injEq] at hH;subst hH;have hOK:=Hand.yvf hok;have hsub:∀b,X.F (H'.fr A) b→X.F A b:=fun b hb=>by
      rcases hb with hb|⟨d,hb⟩|⟨m,l,hb⟩
      ·exact .inl hb
      ·obtain ⟨s,_,h2⟩:=yle hb;exact .inr (.inl ⟨s,h2⟩)
      ·obtain ⟨n,_,h2⟩:=zzm hb;exact .inr (.inr ⟨n,l,h2⟩)
     have hf:Fits X A w H' (X.F (H'.fr A)):=by
      refine ⟨⟨fun _ _ _=>rfl,fun b hb=>.inl (hsub b hb)⟩,fun m hm b l hb=> ?_,fun d hd b hb=> ?_⟩
      ·rintro (hf|⟨d,hf⟩|⟨m',l',hf⟩)
       ·exact hi.good.f0m (hi.good.tgm m b l hb).1 hf
       ·obtain ⟨s,_,h2⟩:=yle hf;exact hi.good.bt s m b l h2 hb
       ·obtain ⟨n,h1,h2⟩:=zzm hf;have:=hi.good.tgi n m b l' l h2 hb;subst this;exact hOK.pl n hm (yav h1)
      ·rintro (hf|⟨d',hf⟩|⟨m',l',hf⟩)
       ·exact hi.good.f0m (hi.good.bxm d b hb).1 hf
       ·obtain ⟨s,h1,h2⟩:=yle hf;have:=hi.good.bxi s d b h2 hb;subst this;exact hOK.pm s hd (List.mem_map.2 ⟨_,h1,rfl⟩)
       ·obtain ⟨n,h1,h2⟩:=zzm hf;exact hi.good.bt d n b l' hb h2
     obtain ⟨r1,r2⟩:=qqs hi hOK hf hl hH' (.refl _) h;refine ⟨H'.fr A,hi.sz,hi.kept,hi.glob.step hf.step,fun i=> ?_,fun d tid cs hd=> ?_,?_,fun p hp=>⟨_,r1 p hp⟩⟩
     ·rcases qjs (slotsOf hs x) i with h1|h1
      ·show RP _ _ _ (getS (slotsOf hs x) i) _;rw [h1];trivial
      ·exact r1 _ h1
     ·exact r2 _ (yob hd)
     ·refine ⟨fun d b hb=> ?_,fun n b l hb=> ?_,fun d d' b h1 h2=> ?_,fun n n' b l l' h1 h2=> ?_,fun d n b l h1 h2=> ?_,hi.good.f0⟩
      ·obtain ⟨s,_,h2⟩:=yle hb;exact hi.good.bxm s b h2
      ·obtain ⟨s,_,h2⟩:=zzm hb;exact hi.good.tgm s b l h2
      ·obtain ⟨s,k1,k2⟩:=yle h1;obtain ⟨s',k3,k4⟩:=yle h2;have:=hi.good.bxi s s' b k2 k4;subst this;exact ygs hOK.b1 k1 k3
      ·obtain ⟨s,k1,k2⟩:=zzm h1;obtain ⟨s',k3,k4⟩:=zzm h2;have:=hi.good.tgi s s' b l l' k2 k4;subst this;exact qby hOK.src k1 k3
      ·obtain ⟨s,k1,k2⟩:=yle h1;obtain ⟨s',k3,k4⟩:=zzm h2;exact hi.good.bt s s' b l k2 k4
   ·cases hH
  ·cases h
 ·cases h
end
structure xfs (E:Env) (F0 G:Nat→Prop) (A:Fr) (w:World) (ks:List Kd) (x:Tup ks) (vs:List Value):Prop where
 rel:All2 (fun (p:Nat×PV) v=>RP (A.F F0) A w p.2 v) (zlu 0 ks x) vs
 bx:∀d,A.bx d=none
 tgm:∀n b l,A.tg n=some (b,l)→G b∧b<w.heap.size
 tgi:∀n n' b l l',A.tg n=some (b,l)→A.tg n'=some (b,l')→n=n'
 f0:∀b,F0 b→b<w.heap.size∧¬G b
 glob:zfe E (A.F F0) w
structure xkz (F0 G:Nat→Prop) (T:Fr) (w w':World) (d:Nat) (ks:List Kd) (r:Tup ks) (v:Value):Prop where
 rel:RP (T.F F0) T w' (yau d ks r) v
 bx:∀d,T.bx d=none
 tgm:∀n b l,T.tg n=some (b,l)→(w.heap.size≤b∨G b)∧b<w'.heap.size
 tgi:∀n n' b l l',T.tg n=some (b,l)→T.tg n'=some (b,l')→n=n'
def Returns (G F0:Nat→Prop) (w:World) (ks:List Kd) (r:Tup ks) (e:Ending) (w':World):Prop:=
 ∃v,e= .returned v∧Kept G w w'∧∀d,∃T,xkz F0 G T w w' d ks r v
def zdw (P:Program) (E:Env) (f:Nat) (x:Tup (E.sig f).args) (r:Tup (E.sig f).res):Prop:=
 ∀(w:World) (F0 G:Nat→Prop) (A:Fr) (vs:List Value),xfs E F0 G A w (E.sig f).args x vs→Calls P f vs.toArray w (Returns G F0 w (E.sig f).res r)
section
variable {X:Ctx} {σ:St}
theorem qyp {A:Fr} {tm:Array Value} {w:World} {H:Hand} {F':Nat→Prop} (hi:Inv X A σ tm w) (hH:H.OK) (hf:Fits X A w H F'):∀{i:Nat} {ks:List Kd} {l:List SV} {h h':Hand} {x:Tup ks} {vs:List Value},
 zef σ (zll i ks) l h=some h'→h'.Sub H→zdl σ ks l=some x→All2 (RS (X.F A) A w) l vs→All2 (fun (p:Nat×PV) v=>RP F' (H.fr A) w p.2 v) (zlu i ks x) vs
 |i,[],l,h,h',x,vs,h2,h3,h4,h5=>by
  cases h5 with
  |nil=>exact .nil
  |cons _ _=>simp [zdl] at h4
 |i,[k],l,h,h',x,vs,h2,h3,h4,h5=>by
  cases h5 with
  |nil=>simp [zdl] at h4
  |cons h6 h7=>
   cases h7 with
   |cons _ _=>simp [zdl] at h4
   |nil=>
    have h4':k.pack σ _=some x:=h4;simp only [zll,zef] at h2;split at h2
    ·rename_i h8 h9;cases h2;exact .cons (zsn hi hH hf h9 h3 h4' h6) .nil
    ·cases h2
 |i,k::k'::ks,l,h,h',x,vs,h2,h3,h4,h5=>by
  cases h5 with
  |nil=>simp [zdl] at h4
  |cons h6 h7=>
   rw [zdl] at h4;split at h4
   ·rename_i x1 x2 hx1 hx2;cases h4;simp only [zll,zef] at h2;split at h2
    ·rename_i h8 h9;exact .cons (zsn hi hH hf h9 ((zpe h2).trans h3) hx1 h6) (qyp hi hH hf (i:=i+1) (ks:=k'::ks) (by simpa only [zll,zef] using h2) h3 hx2 h7)
    ·cases h2
   ·cases h4
theorem yfk {A:Fr} {tm:Array Value} {w:World} {H:Hand} {F':Nat→Prop} (hi:Inv X A σ tm w) (hH:H.OK) (hf:Fits X A w H F') {d:Nat}:∀{j:Nat} {ks:List Kd} {l:List SV} {h h':Hand} {x:Tup ks} {vs:List Value},
 zef σ (zli d j ks) l h=some h'→h'.Sub H→zdl σ ks l=some x→All2 (RS (X.F A) A w) l vs→All2 (RS F' (H.fr A) w) (zkg d j ks x) vs
 |j,[],l,h,h',x,vs,h2,h3,h4,h5=>by
  cases h5 with
  |nil=>exact .nil
  |cons _ _=>simp [zdl] at h4
 |j,[k],l,h,h',x,vs,h2,h3,h4,h5=>by
  cases h5 with
  |nil=>simp [zdl] at h4
  |cons h6 h7=>
   cases h7 with
   |cons _ _=>simp [zdl] at h4
   |nil=>
    have h4':k.pack σ _=some x:=h4;simp only [zli,zef] at h2;split at h2
    ·rename_i h8 h9;cases h2;exact .cons (zsn hi hH hf h9 h3 h4' h6) .nil
    ·cases h2
 |j,k::k'::ks,l,h,h',x,vs,h2,h3,h4,h5=>by
  cases h5 with
  |nil=>simp [zdl] at h4
  |cons h6 h7=>
   rw [zdl] at h4;split at h4
   ·rename_i x1 x2 hx1 hx2;cases h4;simp only [zli,zef] at h2;split at h2
    ·rename_i h8 h9;exact .cons (zsn hi hH hf h9 ((zpe h2).trans h3) hx1 h6) (yfk hi hH hf (j:=j+1) (ks:=k'::ks) (by simpa only [zli,zef] using h2) h3 hx2 h7)
    ·cases h2
   ·cases h4
def Hand.shift (d:Nat) (h:Hand):Hand:={ren:=h.ren.map fun p=>(p.1,p.2+d*64),pl:=h.pl,rb:=h.rb.map fun p=>(p.1,p.2+d),pm:=h.pm}
theorem qfv (d j k:Nat):zcc 0 j k+d*64=zcc d j k:=by unfold zcc;omega
theorem znp (d:Nat):∀{own:List Nat} {j k:Nat} {cs:List PC} {h h':Hand},zbx own 0 j k cs h=some h'→zbx own d j k cs (h.shift d)=some (h'.shift d)
 |own,j,k,[],h,h',e=>by simp only [zbx,Option.some.injEq] at e ⊢;rw [e]
 |own,j,k,c::r,h,h',e=>by
  cases c with
  |slice e1 t xs g=>
   simp only [zbx] at e ⊢;cases hm:mem own k with
   |true=>
    simp only [hm,cond_true] at e ⊢;cases g with
    |own n=>have:=znp d e;simpa [Hand.shift,qfv] using this
    |nil=>have:=znp d e;simpa [Hand.shift,qfv] using this
    |_=>cases e
   |false=>simp only [hm,cond_false] at e ⊢;have:=znp d e;simpa [Hand.shift] using this
  |nilS=>
   simp only [zbx] at e ⊢;cases hm:mem own k with
   |true=>simp only [hm,cond_true] at e ⊢;have:=znp d e;simpa [Hand.shift,qfv] using this
   |false=>simp only [hm,cond_false] at e ⊢;exact znp d e
  |_=>simp only [zbx] at e ⊢;exact znp d e
theorem yqr (d:Nat) {j:Nat} {k:Kd} {s:SV} {h h':Hand} (e:k.hand σ 0 j s h=some h'):k.hand σ d j s (h.shift d)=some (h'.shift d):=by
 cases k with
 |v t own=>simp only [Kd.hand] at e ⊢;exact znp d e
 |n _ _=>simp only [Kd.hand,Option.some.injEq] at e ⊢;rw [e]
 |f=>simp only [Kd.hand,Option.some.injEq] at e ⊢;rw [e]
 |p t=>
  cases s with
  |agg cs=>simp only [Kd.hand,Option.some.injEq] at e ⊢;rw [e]
  |one c=>
   cases c with
   |box d' o=>
    simp only [Kd.hand] at e ⊢;split at e
    ·rename_i q;cases e;rfl
    ·cases e
   |_=>simp only [Kd.hand,Option.some.injEq] at e ⊢;rw [e]
 |b t tid own=>
  cases s with
  |agg cs=>simp [Kd.hand] at e
  |one c=>
   cases c with
   |box d' o=>
    cases o with
    |succ o=>simp [Kd.hand] at e
    |zero=>
     simp only [Kd.hand] at e ⊢;split at e
     ·rename_i q;have:=znp d e
      simpa [Hand.shift] using this
     ·cases e
   |_=>simp [Kd.hand] at e
theorem yfl (d:Nat):∀{j:Nat} {ks:List Kd} {l:List SV} {h h':Hand},zef σ (zli 0 j ks) l h=some h'→zef σ (zli d j ks) l (h.shift d)=some (h'.shift d)
 |j,[],l,h,h',e=>by cases l<;>simp only [zli,zef,Option.some.injEq] at e ⊢<;>rw [e]
 |j,k::ks,[],h,h',e=>by simp only [zli,zef,Option.some.injEq] at e ⊢;rw [e]
 |j,k::ks,s::ss,h,h',e=>by
  simp only [zli,zef] at e ⊢;split at e
  ·rename_i h1 h2;rw [yqr d h2];exact yfl d e
  ·cases e
theorem qgq (c:Nat):∀(l:List Nat),nodup (l.map (· +c))=nodup l
 |[]=>rfl
 |x::r=>by
  simp only [List.map_cons,nodup,qgq c r]
  congr 2
  cases h:mem r x with
  |true=>exact mem_iff.2 (List.mem_map.2 ⟨x,mem_iff.1 h,rfl⟩)
  |false=>
   cases h':mem (r.map (· +c)) (x+c) with
   |false=>rfl
   |true=>
    obtain ⟨y,hy,he⟩:=List.mem_map.1 (mem_iff.1 h');have:y=x:=by omega
    subst this;rw [mem_iff.2 hy] at h;cases h
theorem xbt (d:Nat) {h:Hand} (hk:h.OK):(h.shift d).OK:=by
 have hs:(h.shift d).srcs=h.srcs:=by simp [Hand.shift,Hand.srcs,List.filterMap_map,Function.comp_def]
 refine ⟨?_,by rw [hs];exact hk.src,?_,?_,fun x hx=>by rw [hs];exact hk.pl x hx,fun x hx hm=>hk.pm x hx (by simpa [Hand.shift,List.map_map,Function.comp_def] using hm)⟩
 ·have:(h.shift d).ren.map (·.2)=(h.ren.map (·.2)).map (· +d*64):=by simp [Hand.shift,List.map_map,Function.comp_def]
  rw [this,qgq];exact hk.dst
 ·have:(h.shift d).rb.map (·.1)=h.rb.map (·.1):=by simp [Hand.shift,List.map_map,Function.comp_def]
  rw [this];exact hk.b1
 ·have:(h.shift d).rb.map (·.2)=(h.rb.map (·.2)).map (· +d):=by simp [Hand.shift,List.map_map,Function.comp_def]
  rw [this,qgq];exact hk.b2
end
end Go.Sv
