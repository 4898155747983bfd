/- plot.Over: its contract. -/
import Derived.Test.YtjolkdjkhekbnaaGreatDoorSvK
import Derived.Test.YtjolkdjkhekbnaaGreatDoorEv9
import Derived.Test.YtjolkdjkhekbnaaGreatDoorM11
import Derived.RangeFuncNested
import Derived.RangeFuncLeaves
import Derived.RangeFuncBox
import Derived.Shelf.Abstract
import Derived.WalkKit
import Derived.OwnWalkIn
import Derived.TacticsInMore
import Derived.LoopNIn
import Derived.LoopIn
import Derived.Maps.OwnIn
import Derived.Maps.Views
namespace Go.Proofs.YtjolkdjkhekbnaaGreatDoor.Sv
open Go Go.Sv Go.Proofs Go.Rd Go.RowKit Go.Shelf
set_option maxRecDepth 100000
attribute [local go_sem] Oper.semAt_some
theorem go_wf [Dfr] {n:Int} (h: -9223372036854775808≤n∧n≤9223372036854775807):(Lit.int .i64 n).wf=true:=by
 simp [Lit.wf,IntKind.min,IntKind.max,IntKind.signed,IntKind.bits]
 omega
theorem qub [Dfr] (n:Nat) (s:Option Addr) (len cap:Nat) (w:World):CallsIn Fence.wide n Tryz.prog 168 #[.slice s len cap] w fun e w' =>
 e= .returned (.func (.func 223) #[] #[.pointer (some ⟨w.heap.size,0,none⟩)])∧w'=w.alloc (.cells #[.slice s len cap] 22):=by
 refine callsIn_of_wp Tryz.func168 rfl trivial ?_ rfl
 simp only [Tryz.ntmps168,List.size_toArray,List.length_cons,List.length_nil,Nat.reduceAdd,Nat.reduceSub,Array.replicate_succ,Array.replicate_zero,List.push_toArray,List.append_toArray,List.nil_append,List.cons_append]
 gi_wp2
 go_ret
 exact ⟨rfl,rfl⟩
abbrev Spot:=Int×Int×Nat×Nat
def ycy (x:Spot):Array Value:= #[.int .i64 x.1,.agg #[.complex .f64 x.2.2.1 x.2.2.2,.int .i64 x.2.1]]
def qfc (x:Spot):Int×Int:=(x.1,x.2.1)
def dat (pre:List Spot):DataW Unit:=pre.foldl (fun D x=>D.put (.int .i64 x.1) (.lit (.int .i64 x.2.1))) (.map [])
theorem qyt [Dfr] (pre:List Spot) (x:Spot):dat (pre++[x])=(dat pre).put (.int .i64 x.1) (.lit (.int .i64 x.2.1)):=by simp [dat]
def ysOf (n:Nat) (p:Nat→Int):List (Int×Int):=(List.range n).map fun (i:Nat)=>((i:Int),p i)
theorem zxl [Dfr] (n:Nat) (p:Nat→Int):ysOf (n+1) p=ysOf n p++[((n:Int),p n)]:=by simp [ysOf,List.range_succ]
theorem yjo [Dfr] (n:Nat) (p:Nat→Int):(ysOf n p).length=n:=by simp [ysOf]
theorem qsk [Dfr] (xs:List Spot):Maps.IsMap (dat xs):=by
 have h:∀(l:List Spot) (D:DataW Unit),Maps.IsMap D→Maps.IsMap (l.foldl (fun D x=>D.put (.int .i64 x.1) (.lit (.int .i64 x.2.1))) D):=by
  intro l
  induction l with
  |nil=>exact fun D h=>h
  |cons x l ih=>exact fun D h=>ih _ (h.put _ _)
 exact h xs _ Maps.isMap_empty
theorem yhe [Dfr] (p:Nat→Int):∀(n:Nat) (xs:List Spot),xs.map qfc=ysOf n p→∀i,i<n→Maps.has (dat xs) (.int .i64 (i:Int))=true∧∀z,(dat xs).atKey (.int .i64 (i:Int)) z= .lit (.int .i64 (p i))
 |0,xs,h,i,hi=>absurd hi (by omega)
 |n+1,xs,h,i,hi=>by
  rw [zxl] at h
  obtain ⟨l1,l2,rfl,h1,h2⟩:=List.map_eq_append_iff.1 h
  obtain ⟨x,rfl,hx⟩:=List.map_eq_singleton_iff.1 h2
  have e1:x.1=(n:Int):=congrArg Prod.fst hx
  have e2:x.2.1=p n:=congrArg Prod.snd hx
  rw [qyt,e1,e2]
  by_cases hin:i=n
  ·subst hin
   have hk:WideAt.IsKeyLit (.int .i64 (i:Int)):=trivial
   exact ⟨Maps.has_put_same (qsk l1) hk _,fun z=>Maps.atKey_put_same (qsk l1) hk _ _⟩
  ·have hne:Lit.int .i64 (i:Int)≠.int .i64 (n:Int):=fun e=>hin (by injection e with _ e;omega)
   rw [Maps.has_put_other hne]
   refine ⟨(yhe p n l1 h1 i (by omega)).1,fun z=> ?_⟩
   rw [Maps.atKey_put_other hne]
   exact (yhe p n l1 h1 i (by omega)).2 z
def yqn (w:World) (ys:List (Int×Int)) (s:Option Addr) (len cap:Nat):Prop :=
 ∀(l bl:Nat) (M:Nat→Prop) (J:List Spot→World→Prop) (W:World),Kept (fun b=>w.heap.size≤b) w W→(∀b,M b→w.heap.size≤b∧b<W.heap.size)→w.heap.size≤l→l<W.heap.size→W.heap[bl]? =some (.cells #[.slice s len cap] 22 (0,0))→¬M bl→bl≠l→
  (∀pre A B,J pre A→Kept (fun k=>W.heap.size≤k) A B→J pre B)→
  (∀pre x W1,J pre W1→(pre++[x]).map qfc <+: ys→W.heap.size≤W1.heap.size→YieldAt Fence.wide 3 Tryz.prog l (ycy x) W1 fun e W'=>e= .returned (.bool true)∧J (pre++[x]) W'∧Kept (fun k=>M k∨k=l) W1 W')→
  J [] W→CallsIn Fence.wide 3 Tryz.prog 223 (#[.func (.yield l) #[] #[]]++ #[.pointer (some ⟨bl,0,none⟩)]) W fun e W'=>(∃v,e= .returned v)∧∃xs,xs.map qfc=ys∧J xs W'
theorem qch [Dfr] {w w':World} {P:Program} {k:TypeId} {R:Value→Option (DataW Unit×List MemPlace)} {b n:Nat} {D:DataW Unit} {G:Nat→Prop} (h:w.ownsMap P k R b n D) (hk:Kept G w w') (hG:¬G b):w'.ownsMap P k R b n D:=by
 obtain ⟨es,ck,hh,hrest⟩:=h
 exact ⟨es,ck,(hk.block _ (Array.getElem?_eq_some_iff.1 hh).1 hG).trans hh,hrest⟩
theorem yfb [Dfr] (n:Nat) (p:Nat→Int) (ov:Nat→List Nat) (hp:∀i,i<n→(p i= -1∧ov i=[])∨(0≤p i∧p i<i∧ov i=ov (p i).toNat++[(p i).toNat])) (hn:n≤1000000) (s:Option Addr) (len cap:Nat) (w:World) (hiter:yqn w (ysOf n p) s len cap) (k:Nat) (hk:k<n) :
 CallsIn Fence.wide 4 Tryz.prog 103 #[.slice s len cap,.int .i64 (k:Int)] w fun e w'=>∃v m,e= .returned v∧w'.ownsRow w.heap.size 3 1 v m ((ov k).map fun (i:Nat)=>Value.int .i64 (i:Int))∧Kept (fun _=>False) w w':=by
 have hys:∀y∈ysOf n p,(Lit.int .i64 y.1).wf=true∧(Lit.int .i64 y.2).wf=true:=fun y hy=>by
  obtain ⟨i,hi,rfl⟩:=List.mem_map.1 hy
  have hi:=List.mem_range.1 hi
  refine ⟨go_wf ⟨?_,?_⟩,go_wf ⟨?_,?_⟩⟩<;>rcases hp i hi with ⟨h,_⟩|⟨h1,h2,_⟩<;>simp only<;>omega
 have hyl:(ysOf n p).length≤1000000:=by rw [yjo];exact hn
 have hmm:= @run_makeMap Tryz.prog
 refine callsIn_of_wp_marks Tryz.func103 rfl trivial ?_ rfl
 simp only [Tryz.ntmps103,List.size_toArray,List.length_cons,List.length_nil,Nat.reduceAdd,Nat.reduceSub,Array.replicate_succ,Array.replicate_zero,List.push_toArray,List.append_toArray,List.nil_append,List.cons_append]
 gi_wp2_with fail
 refine ⟨trivial,(qub _ _ _ _ _).mono ?_⟩
 rintro e w' ⟨rfl,rfl⟩
 gi_wp2_with fail
 have hm0:=World.ownsMap_made w Tryz.prog 3 (plainElem (H:=Unit) Tryz.prog 3)
 have bS:=(Boxed.new (w.alloc (.map #[] 0)) 173 (.map (some w.heap.size))).alloc (.cells #[.slice s len cap] 22)
 have bN:=Boxed.new ((w.alloc (.map #[] 0)).alloc (.cells #[.map (some w.heap.size)] 173)) 22 (.slice s len cap)
 simp only [World.size_alloc] at bS bN
 obtain ⟨W0,hW0⟩:∃W0,(((w.alloc (.map #[] 0)).alloc (.cells #[.map (some w.heap.size)] 173)).alloc (.cells #[.slice s len cap] 22))=W0:=⟨_,rfl⟩
 have hs0:W0.heap.size=w.heap.size+3:=by rw [←hW0];simp
 have hm1:W0.ownsMap Tryz.prog 3 (plainElem (H:=Unit) Tryz.prog 3) w.heap.size 0 (.map []):=by rw [←hW0];exact (hm0.alloc _).alloc _
 rw [hW0] at bS bN ⊢
 refine yel (n:=3) (encs:=ycy) (Ok:=fun pre=>pre.map qfc <+: ysOf n p) (Fin:=fun xs=>xs.map qfc=ysOf n p) (M:=fun b=>b=w.heap.size) rfl (enters_of Tryz.func223 (by kernel_rfl) rfl) (fun _=>rfl) (fun b hb=>by omega)
  (fun pre W=>Boxed W (w.heap.size+1) 173 (.map (some w.heap.size))∧W.ownsMap Tryz.prog 3 (plainElem (H:=Unit) Tryz.prog 3) w.heap.size pre.length (dat pre)) ?hI ⟨bS,hm1⟩ ?iter ?round ?done
 case hI =>
  rintro pre W W' ⟨h1,h2⟩ hk
  refine ⟨(hk.block _ h1.lt (by omega)).trans h1,?_⟩
  obtain ⟨es,ck,hh,hrest⟩:=h2
  exact ⟨es,ck,(hk.block _ (Array.getElem?_eq_some_iff.1 hh).1 (by omega)).trans hh,hrest⟩
 case iter =>
  intro l J W hk hl hlW hJ hy h0
  have hkw:Kept (fun b=>w.heap.size≤b) w W0:=by
   rw [←hW0]
   exact (((Kept.refl _ w).alloc _).alloc _).alloc _
  have hsz:=hk.size
  refine hiter l (w.heap.size+1+1) _ J W (hkw.trans hk fun x h=>h.elim) (fun b hb=>by subst hb;omega) (by omega) hlW ((hk.block _ (by omega) fun h=>h).trans bN) (by omega) (by omega) hJ hy h0
 case round =>
  rintro l pre ⟨x1,x2,x3,x4⟩ W hl hlW ⟨h1,h2⟩ hok
  simp only [ycy]
  have hsc:=fun (a:Addr) (re im:Nat) (w:World)=>run_store Tryz.prog w a (.complex .f64 re im) .plain rfl
  have hcell:=h1.cell
  gi_wp2_with fail
  refine ⟨kept_alloc ..,fun W2 hk2=> ?_⟩
  have hb2:W2.heap[W.heap.size]? =some (.cells #[.complex .f64 x3 x4,.int .i64 x2] 178 (0,0)):=(hk2.block _ (by simp) (by omega)).trans (World.alloc_heap_new W _)
  have hc2:W2.cell? ⟨W.heap.size,1,none⟩=some (.int .i64 x2):=by simp [World.cell?,hb2]
  have h1b:Boxed W2 (w.heap.size+1) 173 (.map (some w.heap.size)):=(hk2.block _ (by have:=(Boxed.lt h1);simp;omega) (by omega)).trans ((zat W _ _ h1.lt).trans h1)
  have hcell2:=h1b.cell
  have hown:W2.ownsMap Tryz.prog 3 (plainElem (H:=Unit) Tryz.prog 3) w.heap.size pre.length (dat pre):=by
   obtain ⟨es,ck,hh,hrest⟩:=h2
   have hlt:=(Array.getElem?_eq_some_iff.1 hh).1
   exact ⟨es,ck,(hk2.block _ (by simp;omega) (by omega)).trans ((zat W _ _ hlt).trans hh),hrest⟩
  have hmem:qfc (x1,x2,x3,x4)∈ysOf n p:=hok.subset (by simp)
  obtain ⟨wf1,wf2⟩:=hys _ hmem
  have hplen:pre.length≤1000000:=by
   have:=hok.length_le
   simp at this;omega
  have hkey:=Maps.keyOf_int_mk Tryz.underlying3 wf1
  clear hcell hsc
  gi_wp2_with (gi_at_mapUpdate;refine qjr _ rfl _ _ _ 173 rfl 3 3 (Maps.int_keyed Tryz.underlying3) Tryz.underlying173 _ w.heap.size pre.length _ rfl hown (by unfold maxLen;omega) _ _ _ rfl rfl hkey _ [] (plainElem_int Tryz.underlying3 wf2) ?_;intro w1 hown1 hgrow1)
  refine And.intro ((hgrow1.block _ (Boxed.lt h1b) (by omega)).trans h1b) ?_
  rw [qyt]
  exact hown1
 case done =>
  rintro D xs W hD hfin ⟨h1,h2⟩ hK hkept
  have hcell:=h1.cell
  have hat:=yhe p n xs hfin
  have hwf:∀i,i<n→(Lit.int .i64 ((i:Nat):Int)).wf=true:=fun i hi=>go_wf ⟨by omega,by omega⟩
  have hkey:=Maps.keyOf_int_mk Tryz.underlying3 (hwf k hk)
  gi_wp2_with (first
   |(gi_at_lookup;refine wpListIn_lookup_own_ok_int W rfl _ _ 173 rfl 3 3 .i64 (Maps.int_keyed Tryz.underlying3) Tryz.underlying173 Tryz.underlying3 (Tryz.zeroValue3 _) w.heap.size xs.length (dat xs) rfl h2 (.int .i64 k) _ rfl hkey ?_;intro c hc hwc;rw [(hat k hk).1];rw [(hat k hk).2] at hc;cases hc)
   |(gi_at_lookup;refine wpListIn_lookup_own_int W rfl _ _ 173 rfl 3 3 .i64 (Maps.int_keyed Tryz.underlying3) Tryz.underlying173 Tryz.underlying3 (Tryz.zeroValue3 _) w.heap.size xs.length (dat xs) rfl h2 (.int .i64 k) _ rfl hkey ?_;intro c hc hwc;rw [(hat k hk).2] at hc;cases hc))
  obtain ⟨i0,hi0,hiz,his,hib⟩:=info_parts (P:=Tryz.prog) (e:=3) (z:=.int .i64 0) (size:=1) (bytes:=8) (by kernel_rfl)
  gi_loopw [1,8] (fun v1 v8 W'=>∃(c:Int) (acc:List Nat),v1= .int .i64 c∧-1≤c∧c<n∧(acc.length:Int)+(c+1)≤k∧(if c<0 then [] else ov c.toNat++[c.toNat])++acc=ov k∧
   W'.ownsRow w.heap.size 3 1 v8 acc.length (acc.map fun (i:Nat)=>Value.int .i64 (i:Int))∧Boxed W' (w.heap.size+1) 173 (.map (some w.heap.size))∧W'.ownsMap Tryz.prog 3 (plainElem (H:=Unit) Tryz.prog 3) w.heap.size xs.length (dat xs)∧
   W'.heap[D]? =some (.deferred (some []))∧Kept (fun b=>b=w.heap.size) W0 W') (fun v1 _ _=>(intOf v1+1).toNat)
  case atStart =>
   refine ⟨p k,[],rfl,?_,?_,?_,?_,⟨rfl,.inl ⟨rfl,rfl⟩⟩,h1,h2,hK,hkept⟩
   ·rcases hp k hk with ⟨h,_⟩|⟨h1,h2,_⟩<;>omega
   ·rcases hp k hk with ⟨h,_⟩|⟨h1,h2,_⟩<;>omega
   ·rcases hp k hk with ⟨h,_⟩|⟨h1,h2,_⟩<;>simp<;>omega
   ·rcases hp k hk with ⟨h,h0⟩|⟨h1,h2,h0⟩
    ·rw [h,h0];rfl
    ·rw [if_neg (by omega),h0];simp
  case round =>
   obtain ⟨c,acc,rfl,hc1,hc2,hc3,hacc,hrow,hb,hmap,hdef,hkp⟩:=hrel
   have hcell3:=hb.cell
   have hq1:w.heap.size≤wr.heap.size:=by have:=hkp.size;omega
   have hq2:0<(#[Value.int .i64 c]:Array Value).size:=by simp
   have hq3:0≤c→1+acc.length≤maxLen:=fun _=>by unfold maxLen;omega
   have hq4:0≤c→(1+acc.length)*8≤140737488355328:=fun _=>by omega
   have hq5:w.heap.size≤(wr.alloc (.cells #[.int .i64 c] 3)).heap.size:=by rw [World.size_alloc];omega
   have hq6:∀u∈acc.map (fun (i:Nat)=>Value.int .i64 (i:Int)),u.oneCell'=true:=fun u hu=>by obtain ⟨i,_,rfl⟩:=List.mem_map.1 hu;rfl
   gi_wp2_with (first
    |(gi_at_builtin;go_loud (have hcn:0≤c:=(by assumption);refine qww _ rfl _ _ 23 rfl w.heap.size 3 i0 _ 1 8 Tryz.underlying23 hi0 hiz his hib rfl Nat.one_pos _ 1 [.int .i64 c] rfl (ownsRow_lit (cs:= #[.int .i64 c]) hq1 hq2) Nat.one_pos u8 acc.length _ rfl (hrow.alloc _) hq6 (hq3 hcn) (hq4 hcn) hq5 ?_;intro v' w1 hrow1 hk1;have hb1:Boxed w1 (w.heap.size+1) 173 (.map (some w.heap.size)):=(hk1.block _ (by have:=Boxed.lt hb;rw [World.size_alloc];omega) (fun h=>by have:=Boxed.lt hb;have:wr.heap.size=_:=Option.some.inj h;omega)).trans ((zat wr _ _ (Boxed.lt hb)).trans hb);have hcell1:=hb1.cell;have hmap1:w1.ownsMap Tryz.prog 3 (plainElem (H:=Unit) Tryz.prog 3) w.heap.size xs.length (dat xs):=qch (qch hmap (kept_alloc wr _) fun h=>h) hk1 (fun h=>by have:=Boxed.lt hb;have:wr.heap.size=_:=Option.some.inj h;omega);have hdef1:w1.heap[D]? =some (.deferred (some [])):=(hk1.block _ (by have:=(Array.getElem?_eq_some_iff.1 hdef).1;rw [World.size_alloc];omega) (fun h=>by have:=(Array.getElem?_eq_some_iff.1 hdef).1;have:wr.heap.size=_:=Option.some.inj h;omega)).trans ((zat wr _ _ (Array.getElem?_eq_some_iff.1 hdef).1).trans hdef);have hkp1:Kept (fun b=>b=w.heap.size) W0 w1:=(hkp.trans (kept_alloc wr _) fun x h=>h.elim).trans hk1 fun x h=>.inr (by have:=hkp.size;have:wr.heap.size=_:=Option.some.inj h;omega)))
    |(gi_at_lookup
      have hcn:0≤c:=by assumption
      obtain ⟨i,rfl⟩:=Int.eq_ofNat_of_zero_le hcn
      have hin:i<n:=by omega
      refine wpListIn_lookup_own_int w1 rfl _ _ 173 rfl 3 3 .i64 (Maps.int_keyed Tryz.underlying3) Tryz.underlying173 Tryz.underlying3 (Tryz.zeroValue3 _) w.heap.size xs.length (dat xs) rfl hmap1 (.int .i64 i) _ rfl (Maps.keyOf_int_mk Tryz.underlying3 (hwf i hin)) ?_
      intro c' hc' hwc'
      rw [(hat i hin).2] at hc'
      cases hc'))
   ·have e0:ov (i:Int).toNat=ov i:=by rw [Int.toNat_natCast]
    rw [if_neg (by omega),e0,Int.toNat_natCast] at hacc
    refine ⟨⟨p i,i::acc,rfl,?_,?_,?_,?_,?_,hb1,hmap1,hdef1,hkp1⟩,?_⟩
    ·rcases hp i hin with ⟨h,_⟩|⟨h1,h2,_⟩<;>omega
    ·rcases hp i hin with ⟨h,_⟩|⟨h1,h2,_⟩<;>omega
    ·rw [List.length_cons];rcases hp i hin with ⟨h,_⟩|⟨h1,h2,_⟩<;>omega
    ·rcases hp i hin with ⟨h,h0⟩|⟨h1,h2,h0⟩
     ·rw [h,←hacc,h0];rfl
     ·rw [if_neg (by omega),←hacc,h0];simp
    ·rw [List.length_cons,Nat.add_comm]
     exact hrow1
    ·show (p i+1).toNat<((i:Int)+1).toNat
     rcases hp i hin with ⟨h,_⟩|⟨h1,h2,_⟩<;>omega
   ·have hlt:c<0:=by assumption
    rw [if_pos hlt,List.nil_append] at hacc
    refine ⟨by simp,.inl ⟨_,_,rfl,run_takeDeferred hdef,?_⟩⟩
    have hkw:Kept (fun _=>False) w W0:=by
     rw [←hW0]
     exact (((Kept.refl _ w).alloc _).alloc _).alloc _
    have hDw:w.heap.size≤D:=by omega
    have hkD:Kept (fun b=>b=D) wr (wr.putObj D (.deferred none)):=zid
    refine ⟨u8,by first|kernel_rfl|simp [results,Tryz.f103,go_sem],u8,acc.length,rfl,?_,?_⟩
    ·rw [←hacc]
     refine zex hrow hkD fun g hg hgD=> ?_
     subst hgD
     obtain ⟨_,h2⟩:=hrow
     rcases h2 with ⟨h0,_⟩|⟨g',cap',cur,hv,_,hh,_⟩
     ·rw [h0] at hg;cases hg
     ·rw [hv] at hg
      have:g'=g:=Option.some.inj hg
      rw [this,hdef] at hh
      cases hh
    ·exact (hkw.trans hkp fun x h=>.inr (by omega)).trans hkD fun x h=>.inr (by omega)
end Go.Proofs.YtjolkdjkhekbnaaGreatDoor.Sv
