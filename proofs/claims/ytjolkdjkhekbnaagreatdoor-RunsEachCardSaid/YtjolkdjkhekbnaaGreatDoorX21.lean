/- Functions that are known by name, called in a world: what the caller gets. -/
import Derived.Test.YtjolkdjkhekbnaaGreatDoorSvTop
import Derived.Test.YtjolkdjkhekbnaaGreatDoorSvK
import Derived.Test.YtjolkdjkhekbnaaGreatDoorW03r
import Derived.WalkKit
import Derived.Carry
import Derived.BigCall
import Derived.MapKept
namespace Go.Proofs.YtjolkdjkhekbnaaGreatDoor.Sv
open Go Go.Sv Go.Proofs Go.Rd Go.RowKit
set_option maxRecDepth 100000
theorem Cl.lift [Dfr] {F F':Nat→Prop} {w:World} (h:∀b,F' b→F b) {t:Ty} {x:t.den} {cs:List Value} (hc:Cl F w t x cs):Cl F' w t x cs :=
 Cl.step ⟨fun _ _ _=>rfl,fun b hb=>.inl (h b hb)⟩ hc
theorem qga [Dfr] {F:Nat→Prop} {T:Fr} {w:World} {e:TypeId} {u:Ty} {xs:List u.den} {g:Tag} {v:Value} (hF:∀n b l,T.tg n=some (b,l)→¬F b) (hx:g≠.nil) (h:RC (T.F F) T w (.slice e u xs g) v):Cl F w (.slice e u) xs [v]:=by
 have hsub:∀b,F b→T.F F b:=fun b hb=>.inl hb
 cases g with
 |no=>exact Cl.lift hsub h
 |nil=>exact absurd rfl hx
 |exact=>exact Cl.lift hsub h.1
 |own n =>
  rcases h with ⟨_,rfl,a,rfl⟩|⟨b,l,ht,h1,cap,cur,rfl,hh,hc,hm,hs,hel⟩
  ·rw [Cl]
   exact ⟨a,0,rfl,Nat.le_refl _,.inl rfl⟩
  ·rw [Cl]
   refine ⟨_,cap,rfl,hc,.inr ⟨_,rfl,hF n b l ht,fun i x hi=> ?_⟩⟩
   obtain ⟨ds,hd,hj⟩:=hel i x hi
   refine ⟨ds,Cl.lift hsub hd,fun j u hu=> ?_⟩
   have:=hj j u hu
   rw [zfk,cell_of_block hh,Nat.zero_add]
   exact this
theorem zgp [Dfr] [zcx] (f:Nat) (x:Tup (E.sig f).args) (r:Tup (E.sig f).res) (hrun:∃q,run E q f x=some r) {W:World} {F:Nat→Prop} {vs:List Value} (hF:∀b,F b→b<W.heap.size) (hg:zcr E F W)
 (hargs:All2 (fun (p:Nat×PV) v=>RP F ⟨fun _=>none,fun _=>none⟩ W p.2 v) (zjm 0 (E.sig f).args x) vs) :
 Calls Tryz.prog f vs.toArray W fun e w'=>∃v,e= .returned v∧Kept (fun _=>False) W w'∧∃T:Fr,RP (T.F F) T w' (qnu 0 (E.sig f).res r) v∧(∀d,T.bx d=none)∧∀n b l,T.tg n=some (b,l)→¬F b:=by
 obtain ⟨q,hq⟩:=hrun
 obtain ⟨hf,hct⟩:=zkt qvy q f x r hq
 have hFr:∀b,Fr.F ⟨fun _=>none,fun _=>none⟩ F b→F b:=fun b h=>by
  rcases h with h|⟨d,h⟩|⟨n,l,h⟩
  ·exact h
  ·cases h
  ·cases h
 have hst:Step F (Fr.F ⟨fun _=>none,fun _=>none⟩ F) W W:=⟨fun _ _ _=>rfl,fun b h=>.inl (hFr b h)⟩
 have hargs':All2 (fun (p:Nat×PV) v=>RP (Fr.F ⟨fun _=>none,fun _=>none⟩ F) ⟨fun _=>none,fun _=>none⟩ W p.2 v) (zjm 0 (E.sig f).args x) vs:=by
  have e:Fr.F ⟨fun _=>none,fun _=>none⟩ F=F:=funext fun b=>propext ⟨hFr b,fun h=>.inl h⟩
  rw [e];exact hargs
 refine (hct W F (fun _=>False) ⟨fun _=>none,fun _=>none⟩ vs ⟨hargs',fun _=>rfl,fun n b l h=>(by cases h),fun n n' b l l' h=>(by cases h),fun b h=>⟨hF b h,fun h=>h⟩,hg.step hst⟩).mono ?_
 rintro e w' ⟨v,rfl,hk,hr⟩
 obtain ⟨T,hT⟩:=hr 0
 refine ⟨v,rfl,hk,T,hT.rel,hT.bx,fun n b l h hFb=> ?_⟩
 rcases (hT.tgm n b l h).1 with h1|h1
 ·have:=hF b hFb;omega
 ·exact h1
end Go.Proofs.YtjolkdjkhekbnaaGreatDoor.Sv
namespace Go.Proofs.YtjolkdjkhekbnaaGreatDoor.Sv
open Go Go.Sv Go.Proofs Go.Rd Go.RowKit Go.MapKept
set_option maxRecDepth 100000
def zxi (es:Array MapEntry):Prop:=∀x∈es.toList,∃s,x.key= .string s
theorem zxi.isKey {es:Array MapEntry} (h:zxi es):∀x∈es.toList,IsKey .string x.key:=fun x hx=>by
 obtain ⟨s,e⟩:=h x hx
 rw [e];trivial
theorem qgx {P:Program} {w:World} {mty kt et:TypeId} {mb clk:Nat} {es:Array MapEntry} {k:ByteArray} (hu:P.underlying mty=some (.map kt et)) (hk:P.underlying kt=some .string) (hb:w.heap[mb]? =some (.map es clk)) (hks:zxi es) :
 (∃e∈es.toList,e.key= .string k∧(Instr.lookup mty (.map (some mb)) (.string k) true).run P w= .ok (.tuple #[e.val,.bool true]) w∧(Instr.lookup mty (.map (some mb)) (.string k) false).run P w= .ok e.val w)∨
 ((∀e∈es.toList,e.key≠.string k)∧∀z,(zeroValue et).run P w= .ok z w→(Instr.lookup mty (.map (some mb)) (.string k) true).run P w= .ok (.tuple #[z,.bool false]) w):=by
 have hik:IsKey .string (.string k):=trivial
 rcases findNow_spec hik es.toList 0 hks.isKey with ⟨h1,h2⟩|⟨j,e,h1,h2,h3⟩
 ·refine .inr ⟨h2,fun z hz=> ?_⟩
  have hck:(Instr.checkKey es.isEmpty 10000 kt (.string k)).run P w= .ok () w:=MapKept.run_checkKey hk hik _ 9999
  simp [Instr.lookup,run_underlying hu,MapKept.run_getObj_map hb,hck,MapKept.run_findKey hk h1,hz,Result.andThen]
 ·have hck:(Instr.checkKey es.isEmpty 10000 kt (.string k)).run P w= .ok () w:=MapKept.run_checkKey hk hik _ 9999
  refine .inl ⟨e,List.mem_of_getElem? h2,h3,?_,?_⟩
  ·simp [Instr.lookup,run_underlying hu,MapKept.run_getObj_map hb,hck,MapKept.run_findKey hk h1,Result.andThen]
  ·simp [Instr.lookup,run_underlying hu,MapKept.run_getObj_map hb,hck,MapKept.run_findKey hk h1,Result.andThen]
def putO (w:World) (b:Nat) (o:Obj):World:={w with heap:=w.heap.setIfInBounds b o}
theorem qvg {P:Program} {w:World} {mty kt et:TypeId} {mb clk:Nat} {es:Array MapEntry} {k:ByteArray} (v:Value) (hu:P.underlying mty=some (.map kt et)) (hk:P.underlying kt=some .string) (hb:w.heap[mb]? =some (.map es clk)) (hks:zxi es) :
 ∃es' clk',(Instr.mapUpdate mty (.map (some mb)) (.string k) v).run P w= .ok () (putO w mb (.map es' clk'))∧(∀e∈es'.toList,e∈es.toList∨(e.key= .string k∧e.val=v))∧∃e∈es'.toList,e.key= .string k:=by
 have hik:IsKey .string (.string k):=trivial
 have hck:(Instr.checkKey false 10000 kt (.string k)).run P w= .ok () w:=MapKept.run_checkKey hk hik _ 9999
 rcases findNow_spec hik es.toList 0 hks.isKey with ⟨h1,h2⟩|⟨j,e,h1,h2,h3⟩
 ·refine ⟨es.push ⟨.string k,v,clk⟩,clk+1,?_,fun e he=> ?_,⟨.string k,v,clk⟩,by simp,rfl⟩
  ·simp [Instr.mapUpdate,run_underlying hu,MapKept.run_getObj_map hb,hck,MapKept.run_findKey hk h1,MapKept.run_setObj_map _ hb,Result.andThen,putO]
  ·rw [Array.toList_push,List.mem_append,List.mem_singleton] at he
   rcases he with he|rfl
   ·exact .inl he
   ·exact .inr ⟨rfl,rfl⟩
 ·have hj:es[j]? =some e:=by simpa using h2
  have hlt:j<es.size:=(Array.getElem?_eq_some_iff.1 hj).1
  have hje:es[j]=e:=(Array.getElem?_eq_some_iff.1 hj).2
  refine ⟨es.modify j fun x=>{x with key:=.string k,val:=v},clk,?_,fun x hx=> ?_,{e with key:=.string k,val:=v},?_,rfl⟩
  ·simp [Instr.mapUpdate,run_underlying hu,MapKept.run_getObj_map hb,hck,MapKept.run_findKey hk h1,hj,h3,MapKept.run_keyThatStays hik,MapKept.run_setObj_map _ hb,Result.andThen,putO]
  ·obtain ⟨i,hi⟩:=List.mem_iff_getElem?.1 hx
   have hi':(es.modify j fun x=>{x with key:=.string k,val:=v})[i]? =some x:=by rw [←Array.getElem?_toList];exact hi
   rw [Array.getElem?_modify] at hi'
   split at hi'
   ·cases hc:es[i]? with
    |none=>rw [hc] at hi';cases hi'
    |some y=>rw [hc] at hi';cases hi';exact .inr ⟨rfl,rfl⟩
   ·exact .inl (List.mem_iff_getElem?.2 ⟨i,by simpa using hi'⟩)
  ·refine List.mem_iff_getElem?.2 ⟨j,?_⟩
   have:(es.modify j fun x=>{x with key:=.string k,val:=v})[j]? =some {e with key:=.string k,val:=v}:=by
    rw [Array.getElem?_modify,if_pos rfl,hj];rfl
   rw [Array.getElem?_toList];exact this
end Go.Proofs.YtjolkdjkhekbnaaGreatDoor.Sv
