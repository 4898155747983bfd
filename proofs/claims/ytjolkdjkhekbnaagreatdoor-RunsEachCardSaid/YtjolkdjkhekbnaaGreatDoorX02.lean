/- trace.Mix: its contract, out of its inner function's. -/
import Derived.Test.YtjolkdjkhekbnaaGreatDoorM7
import Derived.Test.YtjolkdjkhekbnaaGreatDoorW01
import Derived.WalkKit
import Derived.RangeFuncBox
namespace Go.Proofs.YtjolkdjkhekbnaaGreatDoor.Sv
open Go Go.Sv Go.Proofs Go.Rd
set_option maxRecDepth 100000
theorem zya [Dfr] (a b:List ByteArray) (h:a.length≤4611686018427387904):dyn E ⟨zdr,[]⟩ [zdm (.slice 9 .str) a,zdm (.slice 9 .str) b] .bool=some (decide (cmpA a b= .eq)) :=
 (zps a b).trans ((zsf a b h).trans (congrArg some (decide_eq_decide.2 (ordA.eq a b).symm)))
theorem zva [Dfr] (a b:List ByteArray) (h:a.length≤4611686018427387904):dyn E ⟨zcv,[]⟩ [zdm (.slice 9 .str) a,zdm (.slice 9 .str) b] (.int .i64)=some (ordN (cmpA a b)) :=
 (znp a b).trans (zim a b h)
theorem yaj [Dfr] (ys:List (List ByteArray)) (hy:ys.length≤1000000) (hs:∀y∈ys,y.length≤1000000):qod ys=some (canon cmpA ys):=by
 unfold qod
 simp only [Option.bind_fun_some]
 exact qbs (u:=.slice 9 .str) ordA (by omega) (fun x hx y _=>zva x y (by have:=hs x hx;omega)) (fun x hx y _=>zya x y (by have:=hs x hx;omega))
theorem zze [Dfr] (w:World) (o:Obj) (b:Nat) (h:b<w.heap.size):(w.alloc o).heap[b]? =w.heap[b]? :=by
 show (w.heap.push o)[b]? =_
 rw [Array.getElem?_push,if_neg (by omega)]
set_option maxHeartbeats 4000000 in
theorem qck [Dfr] [zcx] (p q:List ByteArray) (r:List (List ByteArray)) (h:zyy p q=some r):zbr Tryz.prog E 180 (p,q) r:=by
 unfold zyy at h
 split at h
 ·rename_i hc
  obtain ⟨hc1,hc2⟩:=hc
  cases h
  have hys:∀y∈zfg [] p q,y.length≤1000000:=fun y hy=>by
   obtain ⟨r,e,hr⟩:=zqf.1 hy
   have:=hr.len
   rw [e];simp;omega
  obtain ⟨k,hk⟩:=((qsd (zfg [] p q)).iff _).1 (yaj _ hc2 hys)
  have hev:=(yuv k k (zfg [] p q)).trans hk
  intro w F0 G A vs hA
  obtain ⟨v0,v1,rfl,h0,h1⟩:∃v0 v1,vs=[v0,v1]∧Cl (A.F F0) w (.slice 9 .str) p [v0]∧Cl (A.F F0) w (.slice 9 .str) q [v1]:=by
   have hr:=hA.rel
   cases hr with
   |cons a hr=>cases hr with
    |cons b hr=>cases hr;exact ⟨_,_,rfl,a,b⟩
  refine calls_of_wp Tryz.func180 rfl ?_
  simp only [Tryz.ntmps180,List.size_toArray,List.length_cons,List.length_nil,Nat.reduceAdd,Nat.reduceSub,Array.replicate_succ,Array.replicate_zero,List.push_toArray,List.append_toArray,List.nil_append,List.cons_append]
  have hbx:Boxed ((w.alloc (.cells #[.slice none 0 0] 184)).alloc (.cells #[.nilFunc] 222)) (w.heap.size+1) 222 .nilFunc:=by
   have:=Boxed.new (w.alloc (.cells #[.slice none 0 0] 184)) 222 .nilFunc
   rwa [World.size_alloc] at this
  have hsf:=fun (a:Addr) (c:Array Value) (w:World)=>run_store Tryz.prog w a (.func (.func 226) #[] c) .plain rfl
  have hb1:=hbx.cell
  have hb2:=hbx.frozen
  go_wp2_with fail
  clear hb1 hb2 hsf
  rename_i K1 hK1 K2 hK2
  have hlt:∀b,A.F F0 b→b<w.heap.size:=fun b hb=>by
   rcases hb with hb|⟨d,hb⟩|⟨n,l,hb⟩
   ·exact (hA.f0 b hb).1
   ·rw [hA.bx] at hb;cases hb
   ·exact (hA.tgm n b l hb).2
  obtain ⟨W0,hW0⟩:∃W0,(w.alloc (Obj.cells #[Value.slice none 0 0] 184)).alloc (Obj.cells #[zek 226 w.heap.size (w.heap.size+1)] 222)=W0:=⟨_,rfl⟩
  have hs0:W0.heap.size=w.heap.size+2:=by rw [←hW0];simp
  have hbo:W0.heap[w.heap.size]? =some (.cells #[.slice none 0 0] 184 (0,0)):=by
   rw [←hW0];exact (zze _ _ _ (by simp)).trans (World.alloc_heap_new w _)
  have hbr:W0.cell? ⟨w.heap.size+1,0,none⟩=some (zek 226 w.heap.size (w.heap.size+1)):=by
   rw [←hW0]
   have:=Boxed.new (w.alloc (.cells #[.slice none 0 0] 184)) 222 (zek 226 w.heap.size (w.heap.size+1))
   rw [World.size_alloc] at this
   exact this.cell
  have hk0:Kept G w W0:=by
   refine ⟨by rw [←hW0];rfl,by rw [←hW0];rfl,by rw [←hW0];rfl,by omega,fun b hb _=> ?_,by rw [←hW0];exact Nat.le_refl _⟩
   rw [←hW0]
   exact (zze _ _ _ (by simp;omega)).trans (zze _ _ _ hb)
  let F:Nat→Prop:=fun b=>A.F F0 b∨b=w.heap.size
  have S0:Step (A.F F0) F w W0:=⟨fun b _ hb=>by
   rw [←hW0]
   exact (zze _ _ _ (by simp;omega)).trans (zze _ _ _ hb),fun b hb=>hb.imp id fun e=>by omega⟩
  have hH:((zrf (zhq [] p q)).bind fun x=>mixH (p.length+q.length+1) x.1 x.2.1 x.2.2 ([]:List (List ByteArray)))=some ([]++zfg [] p q):=by
   show mixH (p.length+q.length+1) [] p q []=_
   unfold mixH
   rw [if_pos ⟨by omega,by simp;omega,by simp;omega⟩]
  have hcalls:=(ydm (p.length+q.length+1)).runs (zhq [] p q) [] _ hH W0 F w.heap.size (w.heap.size+1) (.slice none 0 0) [.slice none 0 0,v0,v1] none
   (fun b hb=>by rcases hb with hb|rfl;have:=hlt b hb;omega;omega) (.inr rfl) (fun _ _ h=>by cases h) hbo ⟨rfl,none,rfl⟩
   (fun h=>by rcases h with h|h;have:=hlt _ h;omega;omega) hbr (hA.glob.step S0) (.cons ⟨none,0,rfl,Nat.le_refl _,.inl rfl⟩ (.cons (h0.step S0) (.cons (h1.step S0) .nil)))
  refine (hW0▸hcalls).mono ?_
  rintro en w' ⟨rfl,hkept,so',own',hheap',hrow',hown'⟩
  rw [hW0] at hkept hown'
  refine hK2 _ _ (hK1 _ _ ?_)
  clear hK1 hK2 hcalls
  let X:Ctx:={P:=Tryz.prog,E:=E,W:=w,G:=G,F0:=F0,n:=16}
  let A4:Fr:=⟨fun d=>if d=5 then some w.heap.size else none,fun m=>if m=320 then own' else none⟩
  have hbx:∀d b,A4.bx d=some b→d=5∧b=w.heap.size:=fun d b h=>by
   simp only [A4] at h
   split at h
   ·cases h;exact ⟨‹_›,rfl⟩
   ·cases h
  have htg:∀m b l,A4.tg m=some (b,l)→m=320∧own'=some (b,l):=fun m b l h=>by
   simp only [A4] at h
   split at h
   ·exact ⟨‹_›,h⟩
   ·cases h
  have hnew:∀go l,own'=some (go,l)→go<w'.heap.size∧W0.heap.size≤go:=fun go l h=>by
   obtain ⟨h1,h2⟩:=hown' go l h
   rcases h2 with ⟨l0,h2⟩|h2
   ·cases h2
   ·exact ⟨h1,h2⟩
  have hk1:Kept G w w':=hk0.trans hkept fun b hb=>by
   rcases hb with rfl|⟨l,hb⟩
   ·exact .inr (Nat.le_refl _)
   ·cases hb
  have hsz:=hkept.size
  have hXF:∀b,X.F A4 b→F0 b∨b=w.heap.size∨∃l,own'=some (b,l):=fun b hb=>by
   rcases hb with hb|⟨d,hb⟩|⟨m,l,hb⟩
   ·exact .inl hb
   ·exact .inr (.inl (hbx d b hb).2)
   ·exact .inr (.inr ⟨l,(htg m b l hb).2⟩)
  have S1:Step (A.F F0) (X.F A4) w w':=⟨fun b hb hl=>(hkept.block b (by omega) fun h=>by
   rcases h with h|⟨l,h⟩
   ·omega
   ·cases h).trans (S0.keep b hb hl),fun b hb=>by
   rcases hXF b hb with hb|hb|⟨l,hb⟩
   ·exact .inl (.inl hb)
   ·exact .inr (by omega)
   ·have:=(hnew b l hb).2;exact .inr (by omega)⟩
  have hso:RC (X.F A4) A4 w' (.slice 26 (.slice 9 .str) (zfg [] p q) (.own 320)) so':=by
   cases ho':own' with
   |none =>
    rw [ho'] at hrow'
    exact .inl ⟨by simp [A4,ho'],hrow'.1,hrow'.2⟩
   |some z =>
    obtain ⟨go,l⟩:=z
    rw [ho'] at hrow'
    refine .inr ⟨go,l,by simp [A4,ho'],hrow'.2.step ⟨fun _ _ _=>rfl,fun b hb=>.inl ?_⟩ rfl⟩
    rcases hXF b hb with hb|hb|⟨l2,hb⟩
    ·exact .inl ⟨.inl (.inl hb),fun _ h=>by cases h⟩
    ·exact .inl ⟨.inr hb,fun _ h=>by cases h⟩
    ·exact .inr ⟨l2,by rw [←ho'];exact hb⟩
  have hinv:Inv X A4 ⟨[(5,.sv (.one (.box 5 0)))],[(5,(184,[.slice 26 (.slice 9 .str) (zfg [] p q) (.own 320)]))]⟩ #[v0,v1,undef,undef,.slice none 0 0,.pointer (some {block:=w.heap.size,off:=0}),.pointer (some {block:=w.heap.size+1,off:=0}),
   zek 226 w.heap.size (w.heap.size+1),zek 226 w.heap.size (w.heap.size+1),v0,v1,.tuple #[],undef,undef,undef,undef] w':=by
   have hslot:∀i,RP (X.F A4) A4 w' (St.get ⟨[(5,.sv (.one (.box 5 0)))],[(5,(184,[.slice 26 (.slice 9 .str) (zfg [] p q) (.own 320)]))]⟩ i) ((#[v0,v1,undef,undef,.slice none 0 0,.pointer (some {block:=w.heap.size,off:=0}),.pointer (some {block:=w.heap.size+1,off:=0}),
    zek 226 w.heap.size (w.heap.size+1),zek 226 w.heap.size (w.heap.size+1),v0,v1,.tuple #[],undef,undef,undef,undef]:Array Value).getD i undef):=fun i=>by
    match i with
    |0|1|2|3|4=>trivial
    |5=>exact ⟨w.heap.size,by simp [A4],rfl⟩
    |i+6=>trivial
   refine ⟨rfl,hk1,hA.glob.step S1,hslot,fun d t cs hd=> ?_,?_,fun z hz=> ?_⟩
   ·simp only [getB] at hd
    cases hb5:Nat.beq 5 d with
    |true =>
     have:=Nat.eq_of_beq_eq_true hb5
     subst this
     simp only [hb5,cond_true,Option.some.injEq,Prod.mk.injEq] at hd
     obtain ⟨rfl,rfl⟩:=hd
     exact ⟨w.heap.size,#[so'],by simp [A4],hheap',.cons hso .nil⟩
    |false=>simp [hb5] at hd
   ·refine ⟨fun d b h=> ?_,fun m b l h=> ?_,fun d d' b h h'=> ?_,fun m m' b l l' h h'=> ?_,fun d m b l h h'=> ?_,fun b hb=>hA.f0 b hb⟩
    ·obtain ⟨_,rfl⟩:=hbx d b h;exact ⟨.inl (Nat.le_refl _),by omega⟩
    ·have:=hnew b l (htg m b l h).2;exact ⟨.inl (show w.heap.size≤b by omega),this.1⟩
    ·rw [(hbx d b h).1,(hbx d' b h').1]
    ·rw [(htg m b l h).1,(htg m' b l' h').1]
    ·have h3:=(hbx d b h).2;have:=(hnew b l (htg m b l h').2).2;omega
   ·rw [List.mem_singleton] at hz
    subst hz
    exact ⟨_,hslot 5⟩
  obtain ⟨e,σ',hend,hcode⟩:=(qbd (X:=X) (run:=run E k) (fuel:=k) (f:=180) tab (zkt qvy k) yfp (by kernel_rfl) 0 _ _ _).1 hev
  refine hcode A4 ⟨_,[]⟩ w' _ hinv rfl fun A' a' w'' hi' hd'=> ?_
  have fin:zyr E σ' [.tmp 4] [184] (E.sig 180).res=some (mixS p q)→a'.defers=[]∧∃v,(results Tryz.f180 a'.tmps).run Tryz.prog w''= .ok v w''∧Sv.Returns G F0 w (E.sig 180).res (mixS p q) (.returned v) w'':=fun hres=>by
   obtain ⟨v,hv,hd⟩:=zrk (X:=X) (fn:=Tryz.f180) (tys:=[184]) (ks:=(E.sig 180).res) (r:=mixS p q) tab.types hi' hres
   exact ⟨hd',v,hv,v,rfl,hi'.kept,hd⟩
  cases e with
  |normal=>exact fin hend
  |ret=>exact fin hend
  |exit id=>cases hend
  |goto l=>cases hend
 ·cases h
end Go.Proofs.YtjolkdjkhekbnaaGreatDoor.Sv
