/- runs.Find's walk. -/
import Derived.Test.YtjolkdjkhekbnaaGreatDoorX27
import Derived.Deep.RegionLaw
namespace Go.Proofs.YtjolkdjkhekbnaaGreatDoor.Sv
open Go Go.Sv Go.Proofs Go.Rd Go.RowKit
set_option maxRecDepth 100000
attribute [local go_sem] Oper.semAt_some
theorem ytv [Dfr] {P:Option Addr→Nat→World→Prop} {G:Prop} (T:Option Addr→Nat→World→Prop) (main:(∀s c w,P s c w→T s c w)→G) (tail:∀s c w,P s c w→T s c w):G:=main tail
theorem yka [Dfr] {P:Program} {ops:Array Oper} {o:Oper} {a:Act} {w w':World} {K:Act→World→Prop} {Q:Exit→Act→World→Prop} {E:Prop} {v vx v':Value}
 (hg:o.guard=none) (s x:Operand) (t:TypeId) (hop:o.op=Op.call {callee:=Callee.builtin Builtin.append,args:= #[s,x],argTypes:= #[t,t]})
 (hs:a.eval s=v) (hx:a.eval x=vx) (hrun:(Builtin.append_ #[t,t] o.type #[v,vx]).run P w= .ok v' w') (hK:K (a.put o.dst v') w'):if Region.wanted o (yielded ops a.tmps)=true then Oper.wp P o a w K Q else E:=by
 have hw:Region.wanted o (yielded ops a.tmps)=true:=by simp [Region.wanted,hg]
 rw [if_pos hw]
 unfold Oper.wp
 simp [execOp,hop,resolve,invoke,builtin,hs,hx,hrun,Result.andThen]
 exact hK
theorem yux [Dfr] {G:Nat→Prop} {w:World} (n:Int) (hG:¬G w.heap.size):Cl G (w.alloc (.cells #[.int .i64 n] 3)) (.slice 3 (.int .i64)) [n] [.slice (some ⟨w.heap.size,0,none⟩) 1 1]:=by
 rw [Cl]
 refine ⟨_,1,rfl,Nat.le_refl _,.inr ⟨_,rfl,hG,fun i x hi=> ?_⟩⟩
 cases i with
 |succ i=>simp at hi
 |zero =>
  have hi':some n=some x:=hi
  cases hi'
  refine ⟨[.int .i64 n],rfl,fun j u hj=> ?_⟩
  match j,hj with
  |0,hj=>exact zkn w _ _ 0 u hj
theorem yoo [Dfr] {W:World} {B:Nat} {cs:Array Value} {T:TypeId} {q:Nat×Nat} (h:W.heap[B]? =some (.cells cs T q)) (j:Nat) (v:Value):(W.setCell ⟨B,j,none⟩ v).heap[B]? =some (.cells (cs.setIfInBounds j v) T q)∧Kept (fun x=>x=B) W (W.setCell ⟨B,j,none⟩ v):=by
 refine ⟨?_,rfl,rfl,rfl,?_,fun b hb hn=> ?_,Nat.le_refl _⟩
 ·show (W.heap.modify B _)[B]? =_
  rw [Array.getElem?_modify,if_pos rfl,h]
  rfl
 ·show W.heap.size≤(W.heap.modify B _).size
  rw [Array.size_modify]
  exact Nat.le_refl _
 ·show (W.heap.modify B _)[b]? =_
  rw [Array.getElem?_modify,if_neg fun e=>hn e.symm]
theorem yrf [Dfr] {W:World} {B:Nat} {a b a' b':Value} {T:TypeId} {q:Nat×Nat} (h:W.heap[B]? =some (.cells #[a,b] T q)):((W.setCell ⟨B,0,none⟩ a').setCell ⟨B,1,none⟩ b').heap[B]? =some (.cells #[a',b'] T q)∧Kept (fun x=>x=B) W ((W.setCell ⟨B,0,none⟩ a').setCell ⟨B,1,none⟩ b'):=by
 obtain ⟨h1,k1⟩:=yoo h 0 a'
 obtain ⟨h2,k2⟩:=yoo h1 1 b'
 exact ⟨h2,k1.trans k2 fun _ h=>.inl h⟩
def lenOf:Value→Nat
 | .slice _ n _=>n
 |_=>0
structure FInv [Dfr] (F:Nat→Prop) (w wr:World) (B kb eb mb:Nat) (cur:Tm) (t:Tc) (ps:List Int) (og:Option Nat) (v0 v7 va:Value):Prop where
 row:Cl (ogF F og) wr (.slice 68 NdY) cur.row [v0]
 box:wr.heap[B]? =some (.cells #[va,.int .i64 t.2] 33 (0,0))
 tc:Cl (ogF F og) wr StY t.1 [va]
 own:OwnO F wr 3 (.int .i64) ps v7 og
 memo:Memo (ogF F og) wr kb eb mb
 kept:Kept (fun b=>w.heap.size≤b) w wr
 ogn:∀g,og=some g→w.heap.size≤g∧g<wr.heap.size∧g≠mb∧g≠B
 glob:zcr E (ogF F og) wr
 lt:∀b,F b→b<wr.heap.size
 bm:B≠mb
 fm:F mb
 fb:F B
theorem FInv.flt [Dfr] {F:Nat→Prop} {w wr:World} {B kb eb mb:Nat} {cur:Tm} {t:Tc} {ps:List Int} {og:Option Nat} {v0 v7 va:Value} (h:FInv F w wr B kb eb mb cur t ps og v0 v7 va):∀b,ogF F og b→b<wr.heap.size:=fun b hb=>by
 rcases hb with hb|hb
 ·exact h.lt b hb
 ·exact (h.ogn b hb).2.1
theorem FInv.step [Dfr] {F:Nat→Prop} {w wr w1:World} {B kb eb mb:Nat} {cur:Tm} {t:Tc} {ps:List Int} {og:Option Nat} {v0 v7 va:Value} (h:FInv F w wr B kb eb mb cur t ps og v0 v7 va) (hk:Kept (fun b=>b=mb) wr w1) (hm:Memo (ogF F og) w1 kb eb mb) (hb:w.heap.size≤mb):FInv F w w1 B kb eb mb cur t ps og v0 v7 va:=by
 have S:Step (ogF F og) (ogF F og) wr w1:=zar hk fun b e=>.inl (e▸h.fm)
 exact ⟨h.row.step S,(hk.block B (Array.getElem?_eq_some_iff.1 h.box).1 h.bm).trans h.box,h.tc.step S,zuq h.own S fun g e=>hk.block g (h.ogn g e).2.1 (h.ogn g e).2.2.1,hm,h.kept.trans hk fun x e=>.inl (e▸hb),fun g e=>⟨(h.ogn g e).1,Nat.lt_of_lt_of_le (h.ogn g e).2.1 hk.size,(h.ogn g e).2.2⟩,h.glob.step S,fun b e=>Nat.lt_of_lt_of_le (h.lt b e) hk.size,h.bm,h.fm,h.fb⟩
theorem FInv.plain [Dfr] {F:Nat→Prop} {w wr w1:World} {B kb eb mb:Nat} {cur:Tm} {t:Tc} {ps:List Int} {og:Option Nat} {v0 v7 va:Value} (h:FInv F w wr B kb eb mb cur t ps og v0 v7 va) (hk:Kept (fun _=>False) wr w1):FInv F w w1 B kb eb mb cur t ps og v0 v7 va:=by
 have S:Step (ogF F og) (ogF F og) wr w1:=zar hk fun b e=>e.elim
 exact ⟨h.row.step S,(hk.block B (Array.getElem?_eq_some_iff.1 h.box).1 id).trans h.box,h.tc.step S,zuq h.own S fun g e=>hk.block g (h.ogn g e).2.1 id,h.memo.kept hk,h.kept.trans hk fun x e=>e.elim,fun g e=>⟨(h.ogn g e).1,Nat.lt_of_lt_of_le (h.ogn g e).2.1 hk.size,(h.ogn g e).2.2⟩,h.glob.step S,fun b e=>Nat.lt_of_lt_of_le (h.lt b e) hk.size,h.bm,h.fm,h.fb⟩
theorem FInv.cells [Dfr] {F:Nat→Prop} {w wr:World} {B kb eb mb:Nat} {cur:Tm} {t:Tc} {ps:List Int} {og:Option Nat} {v0 v7 va:Value} (h:FInv F w wr B kb eb mb cur t ps og v0 v7 va):wr.cell? ⟨B,0,none⟩=some va∧wr.cell? ⟨B,1,none⟩=some (.int .i64 t.2):=⟨by rw [cell_of_block h.box];rfl,by rw [cell_of_block h.box];rfl⟩
theorem FInv.exp [Dfr] [zcx] [zcd] [zdz] [zjx] {F:Nat→Prop} {w wr:World} {B kb eb mb:Nat} {cur:Tm} {t:Tc} {ps:List Int} {og:Option Nat} {v0 v7 va:Value} (h:FInv F w wr B kb eb mb cur t ps og v0 v7 va) (hb:w.heap.size≤mb) {n:Tm} (hn:Good n) (h8:cntW n.row≤8) {v:Value} (hv:Cl (ogF F og) wr (.slice 68 NdY) n.row [v]) :
 Calls Tryz.prog 83 #[v,.pointer (some ⟨kb,0,none⟩),.pointer (some ⟨eb,0,none⟩)] wr fun e w'=>∃s c,e= .returned (.slice s n.tr.length c)∧Kept (fun b=>b=mb) wr w'∧FInv F w w' B kb eb mb cur t ps og v0 v7 va∧Cl (ogF F og) w' (.slice 33 TcY) n.tr [.slice s n.tr.length c]:=by
 refine (qvx (cntW n.row+1) n hn h8 (Nat.lt_succ_self _) wr (ogF F og) v kb eb mb h.flt h.glob hv h.memo).mono ?_
 rintro e w1 ⟨s,c,he,hk,hm,hcl⟩
 exact ⟨s,c,he,hk,h.step hk hm hb,hcl⟩
theorem yfa [Dfr] {F:Nat→Prop} {w:World} {e:TypeId} {u:Ty} {xs:List u.den} {v:Value} {og:Option Nat} (h:OwnO F w e u xs v og):lenOf v=xs.length:=by
 cases og with
 |none =>
  obtain ⟨rfl,a,rfl⟩:=h
  rfl
 |some g =>
  obtain ⟨_,cap,cur,rfl,_⟩:=h
  rfl
theorem FInv.pick [Dfr] {F:Nat→Prop} {w wt w9:World} {B kb eb mb:Nat} {cur n':Tm} {t r:Tc} {ps:List Int} {og og':Option Nat} {v0 v7 va v9 vn vr:Value} {k:Int} (h:FInv F w wt B kb eb mb cur t ps og v0 v7 va) (hB:B=w.heap.size) (hb:w.heap.size≤mb) (hrow:Cl (ogF F og) wt (.slice 68 NdY) n'.row [vn]) (htc:Cl (ogF F og) wt StY r.1 [vr])
 (hown:OwnO F w9 3 (.int .i64) (ps++[k]) v9 og') (hk:Kept (fun b=>og=some b) wt w9) (hn:∀g,og'=some g→og=some g∨wt.heap.size≤g) (hl:∀g,og'=some g→g<w9.heap.size) :
 FInv F w ((w9.setCell ⟨B,0,none⟩ vr).setCell ⟨B,1,none⟩ (.int .i64 r.2)) B kb eb mb n' r (ps++[k]) og' vn v9 vr:=by
 have hbx9:w9.heap[B]? =some (.cells #[va,.int .i64 t.2] 33 (0,0)):=(hk.block _ (Array.getElem?_eq_some_iff.1 h.box).1 fun e=>(h.ogn _ e).2.2.2 rfl).trans h.box
 obtain ⟨b1,b2⟩:=yrf (a':=vr) (b':=.int .i64 r.2) hbx9
 have hBl:=(Array.getElem?_eq_some_iff.1 h.box).1
 have hmbl:=h.memo.lt.2.2
 have hk2:Kept (fun b=>og=some b∨b=B) wt ((w9.setCell ⟨B,0,none⟩ vr).setCell ⟨B,1,none⟩ (.int .i64 r.2)):=(hk.yjq fun _ _ e=>.inl e).trans b2 fun _ e=>.inl (.inr e)
 have hBmem:ogF F og B:=.inl h.fb
 have S:Step (ogF F og) (ogF F og') wt ((w9.setCell ⟨B,0,none⟩ vr).setCell ⟨B,1,none⟩ (.int .i64 r.2)):=⟨fun b hb hlt=>hk2.block b hlt fun e=>by
  rcases e with e|e
  ·exact hb (.inr e)
  ·exact hb (e▸hBmem),fun b hb=>by
  rcases hb with hb|hb
  ·exact .inl (.inl hb)
  ·rcases hn b hb with e|e
   ·exact .inl (.inr e)
   ·exact .inr e⟩
 have S9:Step (ogF F og') (ogF F og') w9 ((w9.setCell ⟨B,0,none⟩ vr).setCell ⟨B,1,none⟩ (.int .i64 r.2)):=zar b2 fun b e=>.inl (e▸h.fb)
 have hogn:∀g,og'=some g→w.heap.size≤g∧g<((w9.setCell ⟨B,0,none⟩ vr).setCell ⟨B,1,none⟩ (.int .i64 r.2)).heap.size∧g≠mb∧g≠B:=fun g e=>by
  have h1:=Nat.lt_of_lt_of_le (hl g e) b2.size
  rcases hn g e with e2|e2
  ·exact ⟨(h.ogn g e2).1,h1,(h.ogn g e2).2.2⟩
  ·exact ⟨by have:=h.kept.size;omega,h1,by omega,by omega⟩
 refine ⟨hrow.step S,b1,htc.step S,zuq hown S9 fun g e=>b2.block g (hl g e) (hogn g e).2.2.2,h.memo.step S ?_ (.inl h.fm),h.kept.trans hk2 fun x e=> ?_,hogn,h.glob.step S,fun b e=>Nat.lt_of_lt_of_le (h.lt b e) hk2.size,h.bm,h.fm,h.fb⟩
 ·exact hk2.block mb hmbl fun e=>by
   rcases e with e|e
   ·exact (h.ogn _ e).2.2.1 rfl
   ·exact h.bm e.symm
 ·rcases e with e|e
  ·exact .inl (h.ogn _ e).1
  ·exact .inl (by omega)
set_option maxHeartbeats 6400000 in
theorem ynf [Dfr] [zcx] [zcd] [zdz] [zjx] {F:Nat→Prop} {w:World} {v vt:Value} {n:Tm} {t0:Tc} (hF:∀b,F b→b<w.heap.size) (hg:zcr E F w) (hc:Cl F w (.slice 68 NdY) n.row [v]) (ht:Cl F w StY t0.1 [vt]) (hn:Good n) (h8:cntW n.row≤8) (htl:t0.1.length≤1000000) :
 Calls Tryz.prog 24 #[v,.agg #[vt,.int .i64 t0.2]] w fun e w'=>∃u,e= .returned (.tuple #[u,.bool (zlj n.row t0).2])∧Kept (fun _=>False) w w'∧Cl F w' (.slice 3 (.int .i64)) (zlj n.row t0).1 [u]:=by
 obtain ⟨ru,hru⟩:∃ru,zlj n.row t0=ru:=⟨_,rfl⟩
 have hres:t0∈n.tr→ru=(picks (cntW n.row+1) n.row t0,true):=fun h=>by rw [←hru,ztp ⟨zzg hn,by rw [zgd hn];exact h⟩]
 have hres0:¬t0∈n.tr→ru=([],false):=fun h=>by rw [←hru,zzl (fun h2=>h (by rw [←zgd hn];exact h2.2))]
 rw [hru]
 have hchk:=zsv n.row (by have:=hn.len;omega)
 rw [zzg hn] at hchk
 have kB:=zbi w (Obj.cells #[vt,.int .i64 t0.2] 33)
 have sB:Step F F w (w.alloc (Obj.cells #[vt,.int .i64 t0.2] 33)):=zar kB fun _ h=>h.elim
 have hFB:∀b,F b→b<(w.alloc (Obj.cells #[vt,.int .i64 t0.2] 33)).heap.size:=fun b hb=>Nat.lt_of_lt_of_le (hF b hb) kB.size
 have hbx:(w.alloc (Obj.cells #[vt,.int .i64 t0.2] 33)).heap[w.heap.size]? =some (.cells #[vt,.int .i64 t0.2] 33 (0,0)):=World.alloc_heap_new w _
 obtain ⟨s,c,rfl⟩:=zca hc
 obtain ⟨st,ct,rfl⟩:=zca ht
 go_enter Tryz.func24,Tryz.ntmps24
 go_wp2_with (go_at_fn 47)
 refine (zxh hchk hFB (hg.step sB) (hc.step sB)).mono ?_
 rintro e w1 ⟨rfl,hk1⟩
 have hF1:∀b,F b→b<w1.heap.size:=fun b hb=>Nat.lt_of_lt_of_le (hFB b hb) hk1.size
 go_wp2_with (go_at_fn 49)
 have hBl:w.heap.size<w1.heap.size:=Nat.lt_of_lt_of_le (Array.getElem?_eq_some_iff.1 hbx).1 hk1.size
 refine (zvv (F:=fun b=>F b∨b=w.heap.size) (fun b hb=>by
  rcases hb with hb|rfl
  ·exact hF1 b hb
  ·exact hBl)).mono ?_
 rintro e w2 ⟨kb,eb,mb,rfl,hk2,hmb,hm2⟩
 have hk02:Kept (fun _=>False) w w2:=(kB.trans hk1 fun _ h=>h.elim).trans hk2 fun _ h=>h.elim
 obtain ⟨F2,hF2⟩:∃F2:Nat→Prop,(fun b=>(F b∨b=w.heap.size)∨b=mb)=F2:=⟨_,rfl⟩
 have hF2i:∀b,F2 b↔(F b∨b=w.heap.size)∨b=mb:=fun b=>by rw [←hF2]
 have s2:Step F (ogF F2 none) w w2:=⟨fun b hb hlt=>hk02.block b hlt id,fun b hb=>by
  rcases hb with hb|hb
  ·rw [hF2i] at hb
   rcases hb with (hb|rfl)|rfl
   ·exact .inl hb
   ·exact .inr (Nat.le_refl _)
   ·exact .inr (by omega)
  ·cases hb⟩
 have hmm:Memo (ogF F2 none) w2 kb eb mb:=hm2.step ⟨fun b hb hlt=>rfl,fun b hb=>by
  rcases hb with hb|hb
  ·exact .inl ((hF2i b).1 hb)
  ·cases hb⟩ rfl (.inl ((hF2i mb).2 (.inr rfl)))
 have hI:FInv F2 w w2 w.heap.size kb eb mb n t0 [] none (.slice s n.row.length c) (.slice none 0 0) (.slice st t0.1.length ct):=by
  refine ⟨hc.step s2,(hk2.block _ hBl id).trans ((hk1.block _ (Array.getElem?_eq_some_iff.1 hbx).1 id).trans hbx),ht.step s2,⟨rfl,none,rfl⟩,hmm,zjh hk02,fun g h=>(by cases h),hg.step s2,fun b hb=> ?_,by omega,(hF2i mb).2 (.inr rfl),(hF2i _).2 (.inl (.inr rfl))⟩
  rw [hF2i] at hb
  rcases hb with (hb|rfl)|rfl
  ·exact Nat.lt_of_lt_of_le (hF b hb) hk02.size
  ·exact Nat.lt_of_lt_of_le hBl hk2.size
  ·exact hm2.lt.2.2
 clear hmm s2 hm2 hbx kB sB
 go_wp2
 go_loopw [0,7] (fun v0 v7 wr=>∃(cur:Tm) (t:Tc) (ps:List Int) (og:Option Nat) (va:Value) (cc:Nat),FInv F2 w wr w.heap.size kb eb mb cur t ps og v0 v7 va∧Good cur∧cntW cur.row<cc∧ps.length+cntW cur.row≤8∧t.1.length≤1000000∧(t0∈n.tr↔t∈cur.tr)∧ps++picks cc cur.row t=picks (cntW n.row+1) n.row t0) (fun _ v7 _=>9-lenOf v7)
 case atStart =>
  exact ⟨n,t0,[],none,_,cntW n.row+1,hI,hn,Nat.lt_succ_self _,by simpa using h8,htl,Iff.rfl,rfl⟩
 case round =>
  obtain ⟨cur,t,ps,og,va,cc,hI,hcur,hcc,h8,htl,hiff,hpk⟩:=hrel
  have hId:=hI.plain (Kept.refl (fun _=>False) wr).drew
  have hmb':w.heap.size≤mb:=by omega
  have hex:=hId.exp hmb' hcur (by omega) hId.row
  obtain ⟨hb0,hb1⟩:=hId.cells
  have hsh:zyf cur.tr:=fewT.short fun x hx=>Nat.le_trans (zny hcur.2.2.2 x hx) (by decide)
  have hln:=qag hcur (by omega)
  have hHas:zmn cur.tr t=some (decide (t∈cur.tr)):=zwd _ _ (by omega) hsh
  obtain ⟨sv,cv,rfl⟩:=zca hId.tc
  go_wp2
  apply ytv (P:=fun sT cT w4=>FInv F2 w w4 w.heap.size kb eb mb cur t ps og u0 u7 (.slice sv t.1.length cv))
  case main =>
   intro tail
   go_region_with (first
    |(go_at_call 83;refine hex.mono ?_;rintro e w3 ⟨sT,cT,rfl,hk3,hI3,hc3⟩;obtain ⟨hb30,hb31⟩:=hI3.cells)
    |(go_at_call 33;refine (qsp hHas hI3.flt hI3.glob hc3 hI3.tc).mono ?_;rintro e w4 ⟨rfl,hk4⟩))
   all_goals exact tail sT cT w4 (hI3.plain hk4)
  case tail =>
   intro sT cT w4 hI4
   clear hex hb0 hb1 hId
   have hFno:∀g,og=some g→¬F2 g:=fun g hgo hf=>by
    obtain ⟨g1,g2,g3,g4⟩:=hI4.ogn g hgo
    rw [hF2i] at hf
    rcases hf with (hf|hf)|hf
    ·have:=hF g hf;omega
    ·exact g4 hf
    ·exact g3 hf
   have hkend:∀wr,Kept (fun b=>w.heap.size≤b) w wr→Kept (fun _=>False) w wr:=fun wr hk=>hk.yjq fun b h1 h2=>by omega
   by_cases hm:t∈cur.tr
   ·cases ho:cur.zhh with
    |true =>
     obtain ⟨s',rfl⟩:∃s',cur= .over s':=by
      cases cur<;>first|exact ⟨_,rfl⟩|cases ho
     have hE:zcz (Tm.over s').row=some (s',true):=zfq (.over s')
     have hrr:=hres (hiff.2 hm)
     rw [←hpk,qaq,List.append_nil] at hrr
     subst hrr
     go_wp2_with (go_at_fn 44)
     refine (zrt hE hI4.flt hI4.glob hI4.row).mono ?_
     rintro e w5 ⟨rfl,hk5⟩
     have hI5:=hI4.plain hk5
     go_wp2
     go_ret2
     exact ⟨_,rfl,hkend _ hI5.kept,Cl.lift (fun b hb=>(hF2i b).2 (.inl (.inl hb))) (ypr hI5.own hFno)⟩
    |false =>
     have hE:zcz cur.row=some (0,false):=by
      rw [zfq cur]
      cases cur<;>first|rfl|cases ho
     have hlen:=hcur.len
     have hL:=qoq cur.row
     go_wp2_with (go_at_fn 44)
     refine (zrt hE hI4.flt hI4.glob hI4.row).mono ?_
     rintro e w5 ⟨rfl,hk5⟩
     have hI5:=hI4.plain hk5
     go_wp2_with (go_at_fn 28)
     refine (zzm (zjf cur.row (by omega)) hI5.flt hI5.glob hI5.row).mono ?_
     rintro e w6 ⟨sM,cM,rfl,hk6,hcM⟩
     have hI6:=hI5.plain hk6
     go_wp2
     go_loopw [0,7,36] (fun v0 v7 v36 wi=>∃k:Nat,v0=u0∧v7=u7∧v36= .int .i64 (k:Int)∧k≤(enL cur.row).length∧FInv F2 w wi w.heap.size kb eb mb cur t ps og u0 u7 (.slice sv t.1.length cv)∧Kept (fun b=>b=mb) w6 wi∧∀j,(hj:j<(enL cur.row).length)→j<k→¬hitR cur.row t (enL cur.row)[j]) (fun _ _ v36 _=>(enL cur.row).length-(intOf v36).toNat)
     case atStart =>
      exact ⟨0,rfl,rfl,rfl,Nat.zero_le _,hI6,Kept.refl _ _,fun j _ h=>absurd h (Nat.not_lt_zero _)⟩
     case round =>
      obtain ⟨k,e0,e7,rfl,hk,hIi,hki,hno⟩:=hrel
      subst e0
      subst e7
      by_cases hlt:k<(enL cur.row).length
      ·obtain ⟨ab,ao,hix,hab,hc0,hc1⟩:=yuu (hcM.step (zar hki fun b e=>.inl (e▸hI6.fm))) hlt
       have hmem:(enL cur.row)[k]∈enL cur.row:=List.getElem_mem hlt
       obtain ⟨mv,hmv⟩:∃mv,(enL cur.row)[k]=mv:=⟨_,rfl⟩
       rw [hmv] at hmem hc0 hc1
       obtain ⟨n',e1,e2,hg',hcnt,hst,hsz',_⟩:=ztm hcur hmem
       obtain ⟨nm,hnmE⟩:∃nm,(zds cur.row mv).2.1=nm:=⟨_,rfl⟩
       have hN:zmo cur.row mv=some (n'.row,nm,0):=by
        rw [zwg cur.row mv (by omega)]
        exact congrArg some (Prod.ext e1 (Prod.ext hnmE e2))
       go_wp2_with (go_at_fn 41)
       obtain ⟨WA,hWA⟩:∃WA,wr.alloc (Obj.cells #[Value.int IntKind.i64 mv.1,Value.int IntKind.i64 mv.2] 71)=WA:=⟨_,rfl⟩
       have kA:Kept (fun _=>False) wr WA:=hWA▸zbi wr _
       have hIA:=hIi.plain kA
       rw [hWA]
       refine (qkz hN hIA.flt hIA.glob hIA.row).mono ?_
       rintro e w7 ⟨sN,cN,rfl,hk7,hcN⟩
       have hI7:=hIA.plain hk7
       have hkA7:Kept (fun b=>b=mb) w6 w7:=hki.trans (kA.trans hk7 fun _ h=>h.elim) fun x h=>h.elim
       clear hWA hix hc0 hc1 kA hIA hk7
       obtain ⟨hb0,hb1⟩:=hI7.cells
       obtain ⟨⟨r,rb⟩,hr⟩:∃r,zmb t nm=r:=⟨_,rfl⟩
       have hrs:=qui t nm (by omega)
       rw [hr] at hrs
       go_wp2_with (go_at_fn 52)
       refine (qzz hrs hI7.flt hI7.glob hI7.tc).mono ?_
       rintro e w8 ⟨sR,cR,rfl,hk8,hcR⟩
       have hI8:=hI7.plain hk8
       go_wp2
       obtain ⟨W9,hW9⟩:∃W9,w8.alloc (Obj.cells #[Value.slice sR r.1.length cR,Value.int IntKind.i64 r.2] 33)=W9:=⟨_,rfl⟩
       have k9:Kept (fun _=>False) w8 W9:=hW9▸zbi w8 _
       have hI9:=hI8.plain k9
       have hbx9:W9.heap[w8.heap.size]? =some (.cells #[.slice sR r.1.length cR,.int .i64 r.2] 33 (0,0)):=by rw [←hW9];exact World.alloc_heap_new w8 _
       rw [hW9]
       have hk69:Kept (fun b=>b=mb) w6 W9:=hkA7.trans (hk8.trans k9 fun _ h=>h.elim) fun x h=>h.elim
       have hcN9:=hcN.step (zar (hk8.trans k9 fun _ h=>h.elim) fun _ h=>h.elim)
       have hcR9:=hcR.step (zar k9 fun _ h=>h.elim)
       have hmb8:mb<w8.heap.size:=hI8.memo.lt.2.2
       have hog8:∀g,og=some g→g<w8.heap.size:=fun g h=>(hI8.ogn g h).2.1
       have hB8:w.heap.size<w8.heap.size:=(Array.getElem?_eq_some_iff.1 hI8.box).1
       clear hW9 hkA7 hb0 hb1 hI7 hI8 hk8 k9
       cases rb with
       |false =>
        first|(go_region_with fail)|fail
        all_goals
         go_wp2
         refine ⟨⟨k+1,rfl,rfl,by go_num,by omega,hI9.plain (Kept.refl (fun _=>False) W9).drew,hk69.drew,fun j hj hjk=> ?_⟩,by simp [intOf];omega⟩
         rcases Nat.lt_or_eq_of_le (Nat.le_of_lt_succ hjk) with h|h
         ·exact hno j hj h
         ·subst h
          rw [hmv]
          intro hh
          have h2:=hh.1
          rw [hnmE,hr] at h2
          cases h2
       |true =>
        have hId:=hI9.plain (Kept.refl (fun _=>False) W9).drew
        have hex:=hId.exp hmb' hg' (by omega) (hcN9.step (zar (Kept.refl (fun _=>False) W9).drew fun _ h=>h.elim))
        have hb50:W9.drew.cell? ⟨w8.heap.size,0,none⟩=some (.slice sR r.1.length cR):=by rw [cell_of_block (show W9.drew.heap[w8.heap.size]? =_ from hbx9)];rfl
        have hb51:W9.drew.cell? ⟨w8.heap.size,1,none⟩=some (.int .i64 r.2):=by rw [cell_of_block (show W9.drew.heap[w8.heap.size]? =_ from hbx9)];rfl
        have hsh':zyf n'.tr:=fewT.short fun x hx=>Nat.le_trans (zny hg'.2.2.2 x hx) (by decide)
        have hln':=qag hg' (by omega)
        have hHas':zmn n'.tr r=some (decide (r∈n'.tr)):=zwd _ _ (by omega) hsh'
        have hS3:∀w3,Kept (fun b=>b=mb) W9.drew w3→Step (ogF F2 og) (ogF F2 og) W9 w3:=fun w3 hk=>zar (Kept.trans (Kept.refl _ W9).drew hk fun _ h=>.inl h) fun b e=>.inl (e▸hI9.fm)
        apply ytv (P:=fun sT cT w4=>FInv F2 w w4 w.heap.size kb eb mb cur t ps og _ _ (.slice sv t.1.length cv)∧w4.cell? ⟨w8.heap.size,0,none⟩=some (.slice sR r.1.length cR)∧w4.cell? ⟨w8.heap.size,1,none⟩=some (.int .i64 r.2)∧Cl (ogF F2 og) w4 StY r.1 [.slice sR r.1.length cR]∧Cl (ogF F2 og) w4 (.slice 68 NdY) n'.row [.slice sN n'.row.length cN]∧Kept (fun b=>b=mb) w6 w4)
        case main =>
         intro tail
         go_region_with (first
          |(go_at_call 83;refine hex.mono ?_;rintro e w3 ⟨sT,cT,rfl,hk3,hI3,hc3⟩;have hb30:=zbo hk3 (fun h=>by simp only at h;omega) hb50;have hb31:=zbo hk3 (fun h=>by simp only at h;omega) hb51)
          |(go_at_call 33;refine (qsp hHas' hI3.flt hI3.glob hc3 (hcR9.step (hS3 w3 hk3))).mono ?_;rintro e w4 ⟨rfl,hk4⟩))
         all_goals exact tail sT cT w4 ⟨hI3.plain hk4,zbo hk4 id hb30,zbo hk4 id hb31,(hcR9.step (hS3 w3 hk3)).step (zar hk4 fun _ h=>h.elim),(hcN9.step (hS3 w3 hk3)).step (zar hk4 fun _ h=>h.elim),(hk69.drew.trans hk3 fun _ h=>.inl h).trans hk4 fun _ h=>h.elim⟩
        case tail =>
         rintro sT2 cT2 wt ⟨hIt,hbt0,hbt1,hcRt,hcNt,hkt⟩
         by_cases hr2:r∈n'.tr
         ·obtain ⟨wd,hwd⟩:∃wd,wt.drew=wd:=⟨_,rfl⟩
          have kd:Kept (fun _=>False) wt wd:=hwd▸(Kept.refl (fun _=>False) wt).drew
          obtain ⟨wl,hwl⟩:∃wl,(wt.alloc (Obj.cells #[Value.int IntKind.i64 (k:Int)] 3)).drew=wl:=⟨_,rfl⟩
          have hwl2:wd.alloc (Obj.cells #[Value.int IntKind.i64 (k:Int)] 3)=wl:=by rw [←hwd];exact hwl
          have kl:Kept (fun _=>False) wd wl:=hwl2▸zbi wd _
          have hId2:=hIt.plain kd
          have hIl:=hId2.plain kl
          have hlit:Cl (ogF F2 og) wl (.slice 3 (.int .i64)) [(k:Int)] [.slice (some ⟨wt.heap.size,0,none⟩) 1 1]:=by
           rw [←hwl2,show wt.heap.size=wd.heap.size from by rw [←hwd];rfl]
           exact yux _ fun h=>Nat.lt_irrefl _ (hId2.flt _ h)
          obtain ⟨v9,w9,og',hrun,hown9,hk9,hn9,hl9⟩:=qky (tt:=23) (ty:=23) (e:=3) (u:=.int .i64) rfl rfl rfl rfl (fun b hb=>⟨hIl.lt b hb,fun h=>hFno b h hb⟩) (fun g h=>(hIl.ogn g h).2.1) hIl.glob hIl.own hlit (room (by simp;omega))
          have hcd0:=zbo kd id hbt0
          have hcd1:=zbo kd id hbt1
          have hcl0:=zbo kl id hcd0
          have hcl1:=zbo kl id hcd1
          have hw8:∀g,og=some g→g≠w8.heap.size:=fun g h=>Nat.ne_of_lt (hog8 g h)
          have hc90:=zbo hk9 (fun h=>hw8 _ h rfl) hcl0
          have hc91:=zbo hk9 (fun h=>hw8 _ h rfl) hcl1
          have hbx9':w9.heap[w.heap.size]? =some (.cells #[.slice sv t.1.length cv,.int .i64 t.2] 33 (0,0)):=(hk9.block _ (Array.getElem?_eq_some_iff.1 hIl.box).1 fun h=>(hIl.ogn _ h).2.2.2 rfl).trans hIl.box
          have hst0:w9.cell? ⟨w.heap.size,0,none⟩=some (.slice sv t.1.length cv):=by rw [cell_of_block hbx9'];rfl
          have hst1:w9.cell? ⟨w.heap.size,1,none⟩=some (.int .i64 t.2):=by rw [cell_of_block hbx9'];rfl
          have hfr0:w9.frozen? ⟨w.heap.size,0,none⟩=false:=by simp [World.frozen?,hbx9']
          have hfr1:w9.frozen? ⟨w.heap.size,1,none⟩=false:=by simp [World.frozen?,hbx9']
          obtain ⟨c',rfl⟩:∃c',cc=c'+1:=⟨cc-1,by omega⟩
          have hhit:hitR cur.row t (enL cur.row)[k]:=by
           rw [hmv]
           exact ⟨by rw [hnmE,hr],by rw [hnmE,hr,e1,zgd hg'];exact hr2⟩
          have hpa:=qny (c:=c') hlt hhit fun j hj=>hno j (by omega) hj
          rw [hmv,hnmE,hr,e1] at hpa
          have hpk9:(ps++[(k:Int)])++picks c' n'.row r=picks (cntW n.row+1) n.row t0:=by
           rw [←hpk,hpa,List.append_assoc]
           rfl
          have hlen9:(ps++[(k:Int)]).length+cntW n'.row≤8:=by rw [List.length_append,List.length_singleton];omega
          have hrl:r.1.length≤t.1.length:=by
           have:=yeb (t:=t) (nm:=nm)
           rw [hr] at this
           exact this
          have hpick:=hIt.pick rfl hmb' hcNt hcRt hown9 ((zjh (G:=fun b=>og=some b) (kd.trans kl fun _ h=>h.elim)).trans hk9 fun _ h=>.inl h) (fun g h=>(hn9 g h).imp id fun h2=>Nat.le_trans (kd.trans kl fun _ h=>h.elim).size h2) hl9
          go_wp2
          clear hwl2
          subst hwl
          subst hwd
          go_region_law (refine yka rfl _ _ 23 rfl rfl rfl hrun ?_)
          all_goals
           go_wp2
           exact ⟨⟨n',r,ps++[(k:Int)],og',_,c',hpick,hg',by omega,hlen9,Nat.le_trans hrl htl,⟨fun _=>hr2,fun _=>hiff.2 hm⟩,hpk9⟩,by rw [yfa hown9,yfa hIt.own];simp;omega⟩
         ·go_wp2
          refine ⟨⟨k+1,rfl,rfl,by go_num,by omega,hIt,hkt,fun j hj hjk=> ?_⟩,by simp [intOf];omega⟩
          rcases Nat.lt_or_eq_of_le (Nat.le_of_lt_succ hjk) with h|h
          ·exact hno j hj h
          ·subst h
           rw [hmv]
           intro hh
           have h2:=hh.2
           rw [hnmE,hr,e1,zgd hg'] at h2
           exact hr2 h2
      ·exfalso
       have hke:k=(enL cur.row).length:=by omega
       obtain ⟨mv,h1,h2⟩:=(yqa hcur ho).1 hm
       obtain ⟨j,hj,e⟩:=List.getElem_of_mem h1
       exact hno j hj (by omega) (by rw [e];exact h2)
   ·have hrr:=hres0 fun h=>hm (hiff.1 h)
    subst hrr
    go_wp2
    go_ret2
    refine ⟨_,rfl,hkend _ hI4.kept,?_⟩
    rw [Cl]
    exact ⟨none,0,rfl,Nat.le_refl _,.inl rfl⟩
end Go.Proofs.YtjolkdjkhekbnaaGreatDoor.Sv
