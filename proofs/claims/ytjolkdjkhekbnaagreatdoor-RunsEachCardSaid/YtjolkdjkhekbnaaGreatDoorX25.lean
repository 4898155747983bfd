/- What the explorer explores: its walk. -/
import Derived.Test.YtjolkdjkhekbnaaGreatDoorW14
import Derived.Test.YtjolkdjkhekbnaaGreatDoorM2
import Derived.Deep.RegionWith
namespace Go.Proofs.YtjolkdjkhekbnaaGreatDoor.Sv
open Go Go.Sv Go.Proofs Go.Rd Go.RowKit
set_option maxRecDepth 100000
attribute [local go_sem] Oper.semAt_some
def keyB (l:List Nd):ByteArray:=⟨(keyL l).toArray⟩
theorem qyi [Dfr] {m n:Tm} (hm:m.fine) (hn:n.fine) (h:keyB m.row=keyB n.row):m=n:=by
 unfold keyB at h
 injection h with h
 have h2:keyL m.row=keyL n.row:=by
  have:=congrArg Array.toList h
  simpa using this
 exact Tm.qao (qyh (zjc hm) (zjc hn) h2)
structure Memo (F:Nat→Prop) (w:World) (kb eb mb:Nat):Prop where
 known:w.heap[kb]? =some (.cells #[.map (some mb)] 111 (0,0))
 self:w.heap[eb]? =some (.cells #[zek 83 kb eb] 82 (0,0))
 map:∃es clk,w.heap[mb]? =some (.map es clk)∧∀x∈es.toList,∃n:Tm,Good n∧x.key= .string (keyB n.row)∧Cl F w (.slice 33 TcY) n.tr [x.val]
 kF:¬F kb
 eF:¬F eb
 mF:F mb
theorem Memo.lt [Dfr] {F:Nat→Prop} {w:World} {kb eb mb:Nat} (h:Memo F w kb eb mb):kb<w.heap.size∧eb<w.heap.size∧mb<w.heap.size:=by
 obtain ⟨es,clk,h3,_⟩:=h.map
 exact ⟨(Array.getElem?_eq_some_iff.1 h.known).1,(Array.getElem?_eq_some_iff.1 h.self).1,(Array.getElem?_eq_some_iff.1 h3).1⟩
theorem Memo.step [Dfr] {F F':Nat→Prop} {w w':World} {kb eb mb:Nat} (h:Memo F w kb eb mb) (S:Step F F' w w') (hb:w'.heap[mb]? =w.heap[mb]?) (hF:F' mb):Memo F' w' kb eb mb:=by
 obtain ⟨l1,l2,l3⟩:=h.lt
 obtain ⟨es,clk,h3,h4⟩:=h.map
 refine ⟨(S.keep kb h.kF l1).trans h.known,(S.keep eb h.eF l2).trans h.self,⟨es,clk,hb.trans h3,fun x hx=> ?_⟩,fun hk=> ?_,fun hk=> ?_,hF⟩
 ·obtain ⟨n,g1,g2,g3⟩:=h4 x hx
  exact ⟨n,g1,g2,g3.step S⟩
 ·rcases S.sub kb hk with hk|hk
  ·exact h.kF hk
  ·omega
 ·rcases S.sub eb hk with hk|hk
  ·exact h.eF hk
  ·omega
theorem Memo.kept [Dfr] {F:Nat→Prop} {w w':World} {kb eb mb:Nat} (h:Memo F w kb eb mb) (hk:Kept (fun _=>False) w w'):Memo F w' kb eb mb :=
 h.step (zar hk fun _ h=>h.elim) (hk.block mb h.lt.2.2 id) h.mF
def ynu [Dfr] (n:Tm):Prop:=∀(w:World) (F:Nat→Prop) (v:Value) (kb eb mb:Nat),(∀b,F b→b<w.heap.size)→zcr E F w→Cl F w (.slice 68 NdY) n.row [v]→Memo F w kb eb mb→
 Calls Tryz.prog 83 #[v,.pointer (some ⟨kb,0,none⟩),.pointer (some ⟨eb,0,none⟩)] w fun e w'=>∃s c,e= .returned (.slice s n.tr.length c)∧Kept (fun b=>b=mb) w w'∧Memo F w' kb eb mb∧Cl F w' (.slice 33 TcY) n.tr [.slice s n.tr.length c]
def yvx [Dfr]:Prop:=∀(n:Tm),n.fine→n.size≤200→∀(w:World) (F:Nat→Prop) (v:Value),(∀b,F b→b<w.heap.size)→zcr E F w→Cl F w (.slice 68 NdY) n.row [v]→
 Calls Tryz.prog 84 #[v] w fun e w'=>e= .returned (.string (keyB n.row))∧Kept (fun _=>False) w w'
theorem zkn [Dfr] (w:World) (cs:Array Value) (e:TypeId) (k:Nat) (v:Value) (h:cs[k]? =some v):(w.alloc (.cells cs e)).cell? ⟨w.heap.size,k,none⟩=some v:=by
 have:(w.alloc (.cells cs e)).heap[w.heap.size]? =some (.cells cs e (0,0)):=by
  show (w.heap.push _)[w.heap.size]? =_
  rw [Array.getElem?_push,if_pos rfl]
 rw [cell_of_block this];exact h
theorem zbi [Dfr] (w:World) (o:Obj):Kept (fun _=>False) w (w.alloc o):=(Kept.refl _ w).alloc o
theorem yen [Dfr] {F:Nat→Prop} {w:World} {mb:Nat} (o:Obj) (hm:F mb):Step F F w (putO w mb o) :=
 ⟨fun b hb hl=>by
  show (w.heap.setIfInBounds mb o)[b]? =_
  rw [Array.getElem?_setIfInBounds,if_neg (show ¬mb=b from fun e=>hb (e▸hm))],fun b h=>.inl h⟩
theorem yeo [Dfr] (w:World) (mb:Nat) (o:Obj):Kept (fun b=>b=mb) w (putO w mb o):=by
 refine ⟨rfl,rfl,rfl,?_,fun b hb h=> ?_,Nat.le_refl _⟩
 ·show w.heap.size≤(w.heap.setIfInBounds mb o).size
  simp
 ·show (w.heap.setIfInBounds mb o)[b]? =_
  rw [Array.getElem?_setIfInBounds,if_neg (fun e=>h e.symm)]
theorem ysc [Dfr] (w:World) {mb:Nat} (o:Obj) (h:mb<w.heap.size):(putO w mb o).heap[mb]? =some o:=by
 show (w.heap.setIfInBounds mb o)[mb]? =_
 simp [Array.getElem?_setIfInBounds,h]
theorem zjh [Dfr] {G:Nat→Prop} {w w':World} (h:Kept (fun _=>False) w w'):Kept G w w':=⟨h.os,h.tape,h.output,h.size,fun b hb _=>h.block b hb id,h.drawn⟩
theorem ypt [Dfr] {F:Nat→Prop} {w:World} {A:List ByteArray} {z:Int} {s:Option Addr} {n c:Nat} (hF:∀b,F b→b<w.heap.size) (h:Cl F w StY A [.slice s n c]) :
 Cl F (w.alloc (.cells #[.slice s n c,.int .i64 z] 33)) (.slice 33 TcY) [(A,z)] [.slice (some ⟨w.heap.size,0,none⟩) 1 1]:=by
 rw [Cl]
 refine ⟨_,1,rfl,Nat.le_refl _,.inr ⟨_,rfl,fun hf=>by have:=hF _ hf;simp only at this;omega,fun i x hi=> ?_⟩⟩
 cases i with
 |succ i=>simp at hi
 |zero =>
  have hi':some (A,z)=some x:=hi
  cases hi'
  refine ⟨[.slice s n c,.int .i64 z],?_,fun j u hj=> ?_⟩
  ·rw [Cl]
   exact ⟨[.slice s n c],[.int .i64 z],rfl,h.step (zar (zbi w _) fun _ h=>h.elim),by rw [Cl]⟩
  ·match j,hj with
   |0,hj=>exact zkn w _ _ 0 u hj
   |1,hj=>exact zkn w _ _ 1 u hj
theorem yqt [Dfr] (s:Int):(Tm.over s).tr=[([],s)]:=rfl
set_option maxHeartbeats 3200000 in
theorem yng [Dfr] [zcx] (s:Int):ynu (.over s):=by
 intro w F v kb eb mb hF hg hc hm
 have hE:zcz (Tm.over s).row=some (s,true):=zfq (.over s)
 go_enter Tryz.func83,Tryz.ntmps83
 go_wp2_with (go_at_fn 44)
 refine (zrt hE hF hg hc).mono ?_
 rintro e w1 ⟨rfl,hk1⟩
 go_wp2
 go_ret
 have hsz:=hk1.size
 have hm1:=hm.kept hk1
 refine ⟨some ⟨w1.heap.size,0,none⟩,1,rfl,zjh (hk1.trans (zbi w1 _) fun _ h=>h.elim),hm1.kept (zbi w1 _),?_⟩
 rw [yqt]
 refine ypt (fun b hb=>by have:=hF b hb;omega) ?_
 rw [Cl]
 exact ⟨none,0,rfl,Nat.le_refl _,.inl rfl⟩
theorem yhl [Dfr] {w:World} {a:Addr} {v:Value} (h:w.cell? a=some v):∃b o,a=⟨b,o,none⟩:=by
 obtain ⟨b,o,sp⟩:=a
 cases sp with
 |none=>exact ⟨b,o,rfl⟩
 |some q =>
  simp only [World.cell?] at h
  split at h
  ·simp at h
  ·cases h
theorem zbo [Dfr] {w w':World} {G:Nat→Prop} (hk:Kept G w w') {a:Addr} {v:Value} (hG:¬G a.block) (h:w.cell? a=some v):w'.cell? a=some v:=by
 have hlt:=World.block_lt_of_cell? w a h
 have:=hk.block a.block hlt hG
 simp only [World.cell?,this] at h ⊢
 exact h
theorem ydu [Dfr] [zcx] {t e:TypeId} {u:Ty} {i ie:TI} (hty:E.ti t=some i) (hd:i.d= .slice e) (he:E.ti e=some ie) (hsz:ie.size=u.sz) {F:Nat→Prop} {W:World} {xs:List u.den} {s:Option Addr} {c:Nat} (h:Cl F W (.slice e u) xs [.slice s xs.length c]) {k:Nat} (hk:k<xs.length) :
 ∃(ab ao:Nat) (ds:List Value),(∀W':World,(Instr.indexAt t (.slice s xs.length c) (.int .i64 (k:Int))).run Tryz.prog W'= .ok (.pointer (some ⟨ab,ao,none⟩)) W')∧¬F ab∧Cl F W u xs[k] ds∧∀j v,ds[j]? =some v→W.cell? ⟨ab,ao+j,none⟩=some v:=by
 rw [Cl] at h
 obtain ⟨A',c',e1,hc,h2⟩:=h
 simp only [List.cons.injEq,Value.slice.injEq,and_true] at e1
 obtain ⟨rfl,_,rfl⟩:=e1
 rcases h2 with h2|⟨a,rfl,hF,hel⟩
 ·rw [h2] at hk;cases hk
 ·obtain ⟨ds,hds,hj⟩:=hel k xs[k] (List.getElem?_eq_getElem hk)
  have hlen:=hds.length
  have hpos:=Ty.zko u
  obtain ⟨v0,hv0⟩:∃v0,ds[0]? =some v0:=⟨ds[0]'(by omega),List.getElem?_eq_getElem (by omega)⟩
  have h0:=hj 0 v0 hv0
  have hadd:∀j,a.add (k*u.sz+j)=(a.add (k*u.sz)).add j:=fun j=>by
   unfold Addr.add
   by_cases h1:k*u.sz=0
   ·simp [h1]
   ·by_cases h2:j=0
    ·simp [h2]
    ·simp [h1,h2,Nat.add_assoc]
  have hblk:(a.add (k*u.sz)).block=a.block:=by unfold Addr.add;split<;>rfl
  rw [Nat.add_zero] at h0
  obtain ⟨b,o,hbo⟩:=yhl h0
  have hie:=(tab.types.ti _ _ he).info
  obtain ⟨ti,hti,hts,_⟩:=hie
  refine ⟨b,o,ds,fun W'=> ?_,by rw [hbo] at hblk;rw [show b=a.block from hblk];exact hF,hds,fun j v hv=> ?_⟩
  ·have:=zwx (tab.types.ti _ _ hty) hd a xs.length c .i64 (k:Int) ⟨by omega,by omega⟩ hti W'
   rw [Int.toNat_natCast,hts,hsz,hbo] at this
   exact this
  ·have:=hj j v hv
   rw [hadd,hbo,zfk] at this
   exact this
theorem yuu [Dfr] [zcx] {F:Nat→Prop} {W:World} {xs:List Mv} {s:Option Addr} {c:Nat} (h:Cl F W (.slice 71 MvY) xs [.slice s xs.length c]) {k:Nat} (hk:k<xs.length) :
 ∃ab ao,(∀W':World,(Instr.indexAt 58 (.slice s xs.length c) (.int .i64 (k:Int))).run Tryz.prog W'= .ok (.pointer (some ⟨ab,ao,none⟩)) W')∧¬F ab∧W.cell? ⟨ab,ao,none⟩=some (.int .i64 xs[k].1)∧W.cell? ⟨ab,ao+1,none⟩=some (.int .i64 xs[k].2):=by
 obtain ⟨ab,ao,ds,h1,h2,h3,h4⟩:=ydu (t:=58) rfl rfl rfl rfl h hk
 rw [Cl] at h3
 obtain ⟨c1,c2,rfl,e1,e2⟩:=h3
 rw [Cl] at e1 e2
 subst e1
 subst e2
 exact ⟨ab,ao,h1,h2,h4 0 _ rfl,h4 1 _ rfl⟩
theorem ywb [Dfr] [zcx] {F:Nat→Prop} {W:World} {xs:List Tc} {s:Option Addr} {c:Nat} (h:Cl F W (.slice 33 TcY) xs [.slice s xs.length c]) {k:Nat} (hk:k<xs.length) :
 ∃ab ao va,(∀W':World,(Instr.indexAt 43 (.slice s xs.length c) (.int .i64 (k:Int))).run Tryz.prog W'= .ok (.pointer (some ⟨ab,ao,none⟩)) W')∧¬F ab∧W.cell? ⟨ab,ao,none⟩=some va∧W.cell? ⟨ab,ao+1,none⟩=some (.int .i64 xs[k].2)∧Cl F W StY xs[k].1 [va]:=by
 obtain ⟨ab,ao,ds,h1,h2,h3,h4⟩:=ydu (t:=43) rfl rfl rfl rfl h hk
 rw [Cl] at h3
 obtain ⟨c1,c2,rfl,e1,e2⟩:=h3
 rw [Cl] at e2
 subst e2
 obtain ⟨s',c',rfl⟩:∃s' c',c1=[Value.slice s' xs[k].1.length c']:=by
  have e:=e1
  rw [Cl] at e
  obtain ⟨s',c',e,_⟩:=e
  exact ⟨s',c',e⟩
 exact ⟨ab,ao,_,h1,h2,h4 0 _ rfl,h4 1 _ rfl,e1⟩
set_option maxHeartbeats 6400000 in
theorem ynh [Dfr] [zcx] [zcd] [zdz] [zjx] (hkey:yvx) {n:Tm} (hn:Good n) (ho:n.zhh=false) (h8:cntW n.row≤8) (hIH:∀n':Tm,Good n'→cntW n'.row<cntW n.row→ynu n'):ynu n:=by
 intro w F v kb eb mb hF hg hc hm
 have hE:zcz n.row=some (0,false):=by
  rw [zfq n]
  cases n<;>first|rfl|cases ho
 have hz:∀w,(zeroValue 43).run Tryz.prog w= .ok (.slice none 0 0) w:=fun w=>Tryz.zeroValue43 w
 have hlen:=hn.len
 go_enter Tryz.func83,Tryz.ntmps83
 go_wp2_with (go_at_fn 44)
 refine (zrt hE hF hg hc).mono ?_
 rintro e w1 ⟨rfl,hk1⟩
 have s1:Step F F w w1:=zar hk1 fun _ h=>h.elim
 have hF1:∀b,F b→b<w1.heap.size:=fun b hb=>Nat.lt_of_lt_of_le (hF b hb) hk1.size
 have hm1:=hm.kept hk1
 go_wp2_with (go_at_fn 84)
 refine (hkey n hn.1 (by have:=hn.2.2.2.1;omega) w1 F v hF1 (hg.step s1) (hc.step s1)).mono ?_
 rintro e w2 ⟨rfl,hk2⟩
 have hk02:Kept (fun _=>False) w w2:=hk1.trans hk2 fun _ h=>h.elim
 have s2:Step F F w w2:=zar hk02 fun _ h=>h.elim
 have hF2:∀b,F b→b<w2.heap.size:=fun b hb=>Nat.lt_of_lt_of_le (hF b hb) hk02.size
 have hm2:=hm1.kept hk2
 have hcell:w2.cell? ⟨kb,0,none⟩=some (.map (some mb)):=by rw [cell_of_block hm2.known];rfl
 obtain ⟨es,clk,hes,hent⟩:=hm2.map
 have hkeys:zxi es:=fun x hx=>by obtain ⟨m,_,e,_⟩:=hent x hx;exact ⟨_,e⟩
 rcases qgx (k:=keyB n.row) Tryz.underlying111 Tryz.underlying9 hes hkeys with ⟨x,hx,hxk,hl1,_⟩|⟨hno,hl0⟩
 ·obtain ⟨m,g1,g2,g3⟩:=hent x hx
  have e:m=n:=qyi g1.1 hn.1 (by rw [g2] at hxk;exact Value.string.inj hxk)
  subst e
  obtain ⟨s',c',hv'⟩:=zca g3
  go_wp2
  go_ret
  refine ⟨s',c',?_,zjh hk02,hm2,by rw [←hv'];exact g3⟩
  rfl
 ·have hl1:=hl0 _ (hz w2)
  go_wp2_with (go_at_fn 28)
  clear hl1 hl0 hcell hz
  refine (zzm (zjf n.row (by omega)) hF2 (hg.step s2) (hc.step s2)).mono ?_
  rintro e w3 ⟨sM,cM,rfl,hk3,hcM⟩
  have hk03:Kept (fun _=>False) w w3:=hk02.trans hk3 fun _ h=>h.elim
  have hm3:=hm2.kept hk3
  have hF3:∀b,F b→b<w3.heap.size:=fun b hb=>Nat.lt_of_lt_of_le (hF b hb) hk03.size
  have hL:=qoq n.row
  go_wp2
  go_loopw [10,41] (fun v10 v41 wr=>∃(k:Nat) (og:Option Nat),v41= .int .i64 (k:Int)∧k≤(enL n.row).length∧OwnO F wr 33 TcY (((enL n.row).take k).flatMap (zsm n.row)) v10 og∧(∀g,og=some g→w3.heap.size≤g∧g<wr.heap.size)∧
   Memo (ogF F og) wr kb eb mb∧Kept (fun b=>b=mb) w3 wr) (fun _ v41 _=>(enL n.row).length-(intOf v41).toNat)
  case atStart =>
   refine ⟨0,none,rfl,Nat.zero_le _,⟨rfl,none,rfl⟩,fun _ h=>(by cases h),?_,Kept.refl _ _⟩
   exact hm3.step ⟨fun _ _ _=>rfl,fun b hb=>by
    rcases hb with hb|hb
    ·exact .inl hb
    ·cases hb⟩ rfl (.inl hm3.mF)
  case round =>
   obtain ⟨k,og,rfl,hk,hown,hog,hmr,hkr⟩:=hrel
   by_cases hlt:k<(enL n.row).length
   ·have hk0r:Kept (fun b=>b=mb) w wr:=(zjh hk03).trans hkr fun x h=>.inl h
    have hogw:∀g,og=some g→w.heap.size≤g:=fun g h=>Nat.le_trans hk03.size (hog g h).1
    have S0:Step F (ogF F og) w wr:=⟨fun b hb hl=>hk0r.block b hl fun e=>hb (e▸hm.mF),fun b hb=>hb.imp id fun h=>hogw b h⟩
    have S3:Step F (ogF F og) w3 wr:=⟨fun b hb hl=>hkr.block b hl fun e=>hb (e▸hm.mF),fun b hb=>hb.imp id fun h=>(hog b h).1⟩
    have hFr:∀b,ogF F og b→b<wr.heap.size:=fun b hb=>by
     rcases hb with hb|hb
     ·exact Nat.lt_of_lt_of_le (hF b hb) hk0r.size
     ·exact (hog b hb).2
    obtain ⟨ab,ao,hix,hab,hc0,hc1⟩:=yuu (hcM.step S3) hlt
    have hmem:(enL n.row)[k]∈enL n.row:=List.getElem_mem hlt
    have hdrop:(enL n.row).take (k+1)=(enL n.row).take k++[(enL n.row)[k]]:=by
     rw [List.take_add_one,List.getElem?_eq_getElem hlt];rfl
    obtain ⟨mv,hmv⟩:∃mv,(enL n.row)[k]=mv:=⟨_,rfl⟩
    rw [hmv] at hmem hdrop hc0 hc1
    obtain ⟨n',e1,e2,hg',hcnt,hst,hsz',_⟩:=ztm hn hmem
    obtain ⟨_,_,_,hnm⟩:=qgr hmem
    obtain ⟨nm,hnmE⟩:∃nm,(zds n.row mv).2.1=nm:=⟨_,rfl⟩
    rw [hnmE] at hnm hst
    have hN:zmo n.row mv=some (n'.row,nm,0):=by
     rw [zwg n.row mv (by omega)]
     exact congrArg some (Prod.ext e1 (Prod.ext hnmE e2))
    go_wp2_with (go_at_fn 41)
    obtain ⟨WA,hWA⟩:∃WA,wr.alloc (Obj.cells #[Value.int IntKind.i64 mv.1,Value.int IntKind.i64 mv.2] 71)=WA:=⟨_,rfl⟩
    have kA:Kept (fun _=>False) wr WA:=hWA▸zbi wr _
    have sA:Step (ogF F og) (ogF F og) wr WA:=zar kA fun _ h=>h.elim
    have hcA1:WA.cell? ⟨wr.heap.size,1,none⟩=some (.int .i64 mv.2):=by rw [←hWA];exact zkn wr _ _ 1 _ rfl
    have hFA:∀b,ogF F og b→b<WA.heap.size:=fun b hb=>Nat.lt_of_lt_of_le (hFr b hb) kA.size
    rw [hWA]
    refine (qkz hN hFA ((hg.step S0).step sA) ((hc.step S0).step sA)).mono ?_
    rintro e w4 ⟨sN,cN,rfl,hk4,hcN⟩
    have hc4:w4.cell? ⟨wr.heap.size,1,none⟩=some (.int .i64 mv.2):=zbo hk4 id hcA1
    have k4:Kept (fun _=>False) wr w4:=kA.trans hk4 fun _ h=>h.elim
    have hmr4:Memo (ogF F og) w4 kb eb mb:=hmr.kept k4
    have hgB:∀W,Kept (fun _=>False) w4 W→zcr E (ogF F og) W∧(∀b,ogF F og b→b<W.heap.size)∧Memo (ogF F og) W kb eb mb∧Cl (ogF F og) W (.slice 68 NdY) n'.row [.slice sN n'.row.length cN]∧
     W.cell? ⟨eb,0,none⟩=some (Value.func (Fn.func 83) #[] #[Value.pointer (some {block:=kb,off:=0}),Value.pointer (some {block:=eb,off:=0})]):=fun W hW=>by
     have SW:Step (ogF F og) (ogF F og) wr W:=zar (k4.trans hW fun _ h=>h.elim) fun _ h=>h.elim
     have hmW:=hmr4.kept hW
     exact ⟨(hg.step S0).step SW,fun b hb=>Nat.lt_of_lt_of_le (hFr b hb) (Nat.le_trans k4.size hW.size),hmW,hcN.step (zar hW fun _ h=>h.elim),by rw [cell_of_block hmW.self];rfl⟩
    by_cases hw:mv.2=1
    case' pos =>
     have hne:(if nm=(⟨#[]⟩:ByteArray) then [] else [nm])=[nm]:=by
      rw [hw] at hnm
      exact if_neg (of_decide_eq_false (hnm.trans rfl))
     rw [hw] at hc4
     have hc5:(w4.alloc (Obj.cells #[Value.slice none 0 0,Value.int IntKind.i64 1] 33)).cell? ⟨wr.heap.size,1,none⟩=some (.int .i64 1):=zbo (zbi w4 _) id hc4
     have kB:Kept (fun _=>False) w4 ((w4.alloc (Obj.cells #[Value.slice (some {block:=w4.heap.size+1,off:=0}) 1 1,Value.int IntKind.i64 1] 33)).alloc (Obj.cells #[Value.string nm] 9)):=(zbi w4 _).trans (zbi _ _) fun _ h=>h.elim
     have cB0:=zbo (zbi (w4.alloc (Obj.cells #[Value.slice (some {block:=w4.heap.size+1,off:=0}) 1 1,Value.int IntKind.i64 1] 33)) (Obj.cells #[Value.string nm] 9)) id (zkn w4 #[Value.slice (some {block:=w4.heap.size+1,off:=0}) 1 1,Value.int IntKind.i64 1] 33 0 _ rfl)
     have cB1:=zbo (zbi (w4.alloc (Obj.cells #[Value.slice (some {block:=w4.heap.size+1,off:=0}) 1 1,Value.int IntKind.i64 1] 33)) (Obj.cells #[Value.string nm] 9)) id (zkn w4 #[Value.slice (some {block:=w4.heap.size+1,off:=0}) 1 1,Value.int IntKind.i64 1] 33 1 _ rfl)
     obtain ⟨gB1,gB2,gB3,gB4,gB5⟩:=hgB _ kB
     have clB:Cl (ogF F og) ((w4.alloc (Obj.cells #[Value.slice (some {block:=w4.heap.size+1,off:=0}) 1 1,Value.int IntKind.i64 1] 33)).alloc (Obj.cells #[Value.string nm] 9)) StY (if nm=(⟨#[]⟩:ByteArray) then [] else [nm]) [Value.slice (some {block:=w4.heap.size+1,off:=0}) 1 1]:=by
      rw [hne,Cl]
      refine ⟨_,1,rfl,Nat.le_refl _,.inr ⟨_,rfl,fun hf=> ?_,fun i x hi=> ?_⟩⟩
      ·have:=hFr _ hf
       have h2:=k4.size
       simp only at this;omega
      ·cases i with
       |succ i=>simp at hi
       |zero =>
        have hi':some nm=some x:=hi
        cases hi'
        refine ⟨[.string nm],by rw [Cl],fun j u hj=> ?_⟩
        match j,hj with
        |0,hj =>
         have:=zkn (w4.alloc (Obj.cells #[Value.slice (some {block:=w4.heap.size+1,off:=0}) 1 1,Value.int IntKind.i64 1] 33)) #[Value.string nm] 9 0 u hj
         rw [World.size_alloc] at this
         exact this
     go_wp2_with (refine (hIH n' hg' hcnt _ _ _ kb eb mb gB2 gB1 gB4 gB3).mono ?_;rintro e w5 ⟨sR,cR,rfl,hk5,hm5,hcR⟩)
    case' neg =>
     have hne:(if nm=(⟨#[]⟩:ByteArray) then [] else [nm])=[]:=by
      rw [decide_eq_false hw] at hnm
      exact if_pos (of_decide_eq_true (hnm.trans rfl))
     have hc5:(w4.alloc (Obj.cells #[Value.slice none 0 0,Value.int IntKind.i64 1] 33)).cell? ⟨wr.heap.size,1,none⟩=some (.int .i64 mv.2):=zbo (zbi w4 _) id hc4
     have kB:Kept (fun _=>False) w4 (w4.alloc (Obj.cells #[Value.slice none 0 0,Value.int IntKind.i64 1] 33)):=zbi w4 _
     have cB0:=zkn w4 #[Value.slice none 0 0,Value.int IntKind.i64 1] 33 0 _ rfl
     have cB1:=zkn w4 #[Value.slice none 0 0,Value.int IntKind.i64 1] 33 1 _ rfl
     obtain ⟨gB1,gB2,gB3,gB4,gB5⟩:=hgB _ kB
     have clB:Cl (ogF F og) (w4.alloc (Obj.cells #[Value.slice none 0 0,Value.int IntKind.i64 1] 33)) StY (if nm=(⟨#[]⟩:ByteArray) then [] else [nm]) [Value.slice none 0 0]:=by
      rw [hne,Cl]
      exact ⟨none,0,rfl,Nat.le_refl _,.inl rfl⟩
     go_wp2_with (refine (hIH n' hg' hcnt _ _ _ kb eb mb gB2 gB1 gB4 gB3).mono ?_;rintro e w5 ⟨sR,cR,rfl,hk5,hm5,hcR⟩)
    all_goals
     clear hgB hix hc0 hc1 hcA1 hc4 gB1 gB2 gB4 gB5
     obtain ⟨A,hA⟩:∃A,(if nm=(⟨#[]⟩:ByteArray) then [] else [nm])=A:=⟨_,rfl⟩
     rw [hA] at clB hne
     have hAl:A.length≤1:=by rw [hne];simp
     clear hne
     have hmbr:=hmr.lt.2.2
     have k4s:=k4.size
     have k5:Kept (fun b=>b=mb) wr w5:=(zjh (k4.trans kB fun _ h=>h.elim)).trans hk5 fun x h=>.inl h
     have st5:Step (ogF F og) (ogF F og) wr w5:=zar k5 fun b h=>.inl (h▸hm.mF)
     have cw1:w5.cell? ⟨w4.heap.size,1,none⟩=some (.int .i64 1):=zbo hk5 (fun h=>by simp only at h;omega) cB1
     obtain ⟨va,cw0,clA⟩:∃va,w5.cell? ⟨w4.heap.size,0,none⟩=some va∧Cl (ogF F og) w5 StY A [va]:=⟨_,zbo hk5 (fun h=>by simp only at h;omega) cB0,clB.step (zar hk5 fun b h=>.inl (h▸hm.mF))⟩
     have hw45:w4.heap.size<w5.heap.size:=World.block_lt_of_cell? w5 _ cw1
     have hogm:∀g,og=some g→g≠mb:=fun g h e=>by
      have h1:=(hog g h).1
      have h2:=hm3.lt.2.2
      omega
     have hown5:OwnO F w5 33 TcY (((enL n.row).take k).flatMap (zsm n.row)) u10 og:=zuq hown st5 fun g h=>k5.block g (hog g h).2 (hogm g h)
     have hsh:∀x∈n'.tr,x.1.length≤6:=zny hg'.2.2.2
     have hlt8:=qag hg' (by omega)
     have hall:=qqd hn h8
     obtain ⟨T,hT⟩:∃T,((enL n.row).take k).flatMap (zsm n.row)=T:=⟨_,rfl⟩
     have hTl:(T++zsm n.row mv).length≤11000000:=by
      have e3:T++zsm n.row mv=((enL n.row).take (k+1)).flatMap (zsm n.row):=by rw [hdrop,List.flatMap_append,hT];simp
      rw [e3]
      refine Nat.le_trans ?_ hall
      have e4:=congrArg (List.flatMap (zsm n.row)) (List.take_append_drop (k+1) (enL n.row))
      rw [List.flatMap_append] at e4
      have e5:=congrArg List.length e4
      rw [List.length_append] at e5
      omega
     rw [hT] at hown5
     clear cB0 cB1 clB kB gB3 hc5 hk5
     obtain ⟨wo,hwo⟩:∃wo,wo=wr:=⟨_,rfl⟩
     subst hwo
     go_loopw [10,63] (fun v10 v63 wi=>∃(j:Nat) (og2:Option Nat),v63= .int .i64 (j:Int)∧j≤n'.tr.length∧OwnO F wi 33 TcY (T++zjw nm (n'.tr.take j)) v10 og2∧(∀g,og2=some g→(og=some g∨w5.heap.size≤g)∧g<wi.heap.size)∧Kept (fun b=>og=some b) w5 wi) (fun _ v63 _=>n'.tr.length-(intOf v63).toNat)
     case atStart =>
      refine ⟨0,og,rfl,Nat.zero_le _,?_,fun g h=>⟨.inl h,Nat.lt_of_lt_of_le (hog g h).2 k5.size⟩,Kept.refl _ _⟩
      rw [List.take_zero,show zjw nm []=[] from rfl,List.append_nil]
      exact hown5
     case round =>
      obtain ⟨j,og2,rfl,hj,hown2,hog2,hki⟩:=hrel
      have hk5s:=k5.size
      have hkis:=hki.size
      have hog2w:∀g,og2=some g→w3.heap.size≤g:=fun g h=>by
       rcases (hog2 g h).1 with h|h
       ·exact (hog g h).1
       ·have:=hkr.size;omega
      have S5:Step (ogF F og) (ogF F og2) w5 wr:=⟨fun b hb hl=>hki.block b hl fun h=>hb (.inr h),fun b hb=>by
       rcases hb with hb|hb
       ·exact .inl (.inl hb)
       ·exact ((hog2 b hb).1).imp .inr id⟩
      have hm5i:Memo (ogF F og2) wr kb eb mb:=hm5.step S5 (hki.block mb hm5.lt.2.2 fun h=>hogm mb h rfl) (.inl hm.mF)
      by_cases hjt:j<n'.tr.length
      ·obtain ⟨ab2,ao2,vt,hix2,hab2,hd0,hd1,hclt⟩:=ywb (hcR.step S5) hjt
       have ca0:wr.cell? ⟨w4.heap.size,0,none⟩=some va:=zbo hki (fun h=>by have:=(hog _ h).2;simp only at this;omega) cw0
       have ca1:wr.cell? ⟨w4.heap.size,1,none⟩=some (.int .i64 1):=zbo hki (fun h=>by have:=(hog _ h).2;simp only at this;omega) cw1
       have clA2:Cl (ogF F og2) wr StY A [va]:=clA.step S5
       obtain ⟨t,ht⟩:∃t,n'.tr[j]=t:=⟨_,rfl⟩
       have htm:t∈n'.tr:=ht▸List.getElem_mem hjt
       have htl:=hsh t htm
       rw [ht] at hd1 hclt
       obtain ⟨r,hr⟩:∃r:Tc,(A++t.1,t.2)=r:=⟨_,rfl⟩
       have hTh:zpk (A,1) t=some r:=by
        rw [qpq _ _ (show A.length+t.1.length≤1000000000 by omega),←hr];rfl
       have hgi:zcr E (ogF F og2) wr:=((hg.step S0).step st5).step S5
       have hFi:∀b,ogF F og2 b→b<wr.heap.size:=fun b hb=>by
        rcases hb with hb|hb
        ·have:=hF3 b hb
         have:=hkr.size
         omega
        ·exact (hog2 b hb).2
       have hT1:(wr.alloc (Obj.cells #[vt,Value.int IntKind.i64 t.2] 33)).cell? ⟨w4.heap.size,0,none⟩=some va:=zbo (zbi wr _) id ca0
       have hT2:(wr.alloc (Obj.cells #[vt,Value.int IntKind.i64 t.2] 33)).cell? ⟨w4.heap.size,1,none⟩=some (.int .i64 1):=zbo (zbi wr _) id ca1
       have kT:=zbi wr (Obj.cells #[vt,Value.int IntKind.i64 t.2] 33)
       have sT:Step (ogF F og2) (ogF F og2) wr (wr.alloc (Obj.cells #[vt,Value.int IntKind.i64 t.2] 33)):=zar kT fun _ h=>h.elim
       have hFT:∀b,ogF F og2 b→b<(wr.alloc (Obj.cells #[vt,Value.int IntKind.i64 t.2] 33)).heap.size:=fun b hb=>Nat.lt_of_lt_of_le (hFi b hb) kT.size
       have hcal:=qzd (p:=(A,1)) (q:=t) hTh hFT (hgi.step sT) (clA2.step sT) (hclt.step sT)
       obtain ⟨s',c',rfl⟩:=zca hclt
       go_wp2_with (go_at_fn 85)
       refine hcal.mono ?_
       rintro e w7 ⟨s7,c7,rfl,hk7,hc7⟩
       have k8:=zbi w7 (Obj.cells #[Value.slice s7 r.1.length c7,Value.int IntKind.i64 r.2] 33)
       have kt7:Kept (fun _=>False) wr w7:=kT.trans hk7 fun _ h=>h.elim
       have kt8:=kt7.trans k8 fun _ h=>h.elim
       have st8:=zar (F:=ogF F og2) kt8 fun _ h=>h.elim
       have hF7:∀b,ogF F og2 b→b<w7.heap.size:=fun b hb=>Nat.lt_of_lt_of_le (hFi b hb) kt7.size
       have hkrs:=hkr.size
       have hkt8:=kt8.size
       have hF8:∀b,F b→b<(w7.alloc (Obj.cells #[Value.slice s7 r.1.length c7,Value.int IntKind.i64 r.2] 33)).heap.size∧og2≠some b:=fun b hb=>by
        have h1:=hF3 b hb
        exact ⟨by omega,fun h=>by have:=hog2w b h;omega⟩
       have hog8:∀g,og2=some g→g<(w7.alloc (Obj.cells #[Value.slice s7 r.1.length c7,Value.int IntKind.i64 r.2] 33)).heap.size:=fun g h=>Nat.lt_of_lt_of_le (hog2 g h).2 hkt8
       have hown8:=zuq hown2 st8 fun g h=>kt8.block g (hog2 g h).2 id
       have hcl8:=ypt (z:=r.2) hF7 hc7
       have hlen8:(T++zjw nm (n'.tr.take j)).length≤11000000:=by
        rw [hst,List.length_append] at hTl
        rw [List.length_append]
        have e6:(zjw nm (n'.tr.take j)).length≤(zjw nm n'.tr).length:=by
         unfold zjw
         rw [List.length_map,List.length_map,List.length_take]
         omega
        omega
       have hroom8:zav ((T++zjw nm (n'.tr.take j)).length+1) 32=true:=room (by omega)
       have hstep:T++zjw nm (n'.tr.take j)++[r]=T++zjw nm (n'.tr.take (j+1)):=by
        rw [List.append_assoc,←hr]
        congr 1
        unfold zjw
        rw [List.take_add_one,List.getElem?_eq_getElem hjt,ht,List.map_append,hA]
        rfl
       go_wp2_with (at_builtin;refine qkg rfl _ _ 43 rfl (u:=TcY) (F:=F) (xs:=T++zjw nm (n'.tr.take j)) (ys:=[r]) (og:=og2) rfl rfl rfl rfl rfl rfl hF8 hog8 (hgi.step st8) hown8 hcl8 hroom8 ?_;intro v' w9 og' hown9 hk9 hfr hl9)
       go_wp2
       rw [hstep] at hown9
       refine ⟨⟨j+1,og',by go_num,by omega,hown9,fun g h=>⟨?_,hl9 g h⟩,(hki.trans (zjh (G:=fun b=>og=some b) kt8) fun x h=>.inl h).trans hk9 fun x h=>(hog2 x h).1⟩,by simp [intOf];omega⟩
       rcases hfr g h with h|h
       ·exact (hog2 g h).1
       ·exact .inr (by omega)
      ·go_wp2
       have hje:j=n'.tr.length:=by omega
       subst hje
       rw [List.take_length,←hst] at hown2
       refine ⟨⟨k+1,og2,by go_num,by omega,?_,fun g h=>⟨hog2w g h,(hog2 g h).2⟩,hm5i,(hkr.trans k5 fun x h=>.inl h).trans hki fun x h=>.inr (hog x h).1⟩,by simp [intOf];omega⟩
       rw [hdrop,List.flatMap_append,hT,List.flatMap_cons,List.flatMap_nil,List.append_nil]
       exact hown2
   ·have hke:k=(enL n.row).length:=by omega
    subst hke
    rw [List.take_length] at hown
    obtain ⟨T,hT⟩:∃T,(enL n.row).flatMap (zsm n.row)=T:=⟨_,rfl⟩
    have hall:=qqd hn h8
    have hsa:=qxn hn ho
    have hTm:∀x∈T,x∈n.tr:=fun x hx=>(qmu hn.set hn.2.2.1 hn.2.2.2 ho x).1 (hT▸hx)
    rw [hT] at hown hall hsa
    have hTs:zyf T:=fewT.short fun x hx=>Nat.le_trans (zny hn.2.2.2 x (hTm x hx)) (by decide)
    have hSet:zpl T=some n.tr:=by rw [qel T (by omega) hTs,hsa]
    have hkd:Kept (fun b=>b=mb) w wr.drew:=((zjh hk03).trans hkr fun x h=>.inl h).drew
    have hmd:Memo (ogF F og) wr.drew kb eb mb:=hmr.kept (Kept.refl _ wr).drew
    have hogw:∀g,og=some g→¬F g:=fun g h hf=>by
     have h1:=hF3 g hf
     have h2:=(hog g h).1
     omega
    have hcd:Cl F wr.drew (.slice 33 TcY) T [u10]:=ypr (zuq hown (zar (Kept.refl (fun _=>False) wr).drew fun _ h=>h.elim) fun g h=>rfl) hogw
    have hsd:Step F F w wr.drew:=zar hkd fun b h=>h▸hm.mF
    have hFd:∀b,F b→b<wr.drew.heap.size:=fun b hb=>Nat.lt_of_lt_of_le (hF b hb) hkd.size
    have hmF:Memo F wr.drew kb eb mb:=hmd.step ⟨fun _ _ _=>rfl,fun b hb=>.inl (.inl hb)⟩ rfl hm.mF
    have hcld:wr.drew.cell? ⟨kb,0,none⟩=some (.map (some mb)):=by rw [cell_of_block hmF.known];rfl
    have hnk:kb≠mb:=fun e=>hm.kF (e▸hm.mF)
    have hcal:∀W,W=wr.drew→Calls Tryz.prog 48 #[u10] W fun e w7=>∃s7 c7 es' clk',e= .returned (.slice s7 n.tr.length c7)∧w7.cell? ⟨kb,0,none⟩=some (.map (some mb))∧
     (Instr.mapUpdate 111 (.map (some mb)) (.string (keyB n.row)) (.slice s7 n.tr.length c7)).run Tryz.prog w7= .ok () (putO w7 mb (.map es' clk'))∧
     Kept (fun b=>b=mb) w (putO w7 mb (.map es' clk'))∧Memo F (putO w7 mb (.map es' clk')) kb eb mb∧(putO w7 mb (.map es' clk')).heap[mb]? =some (.map es' clk')∧zxi es'∧∃x∈es'.toList,x.key= .string (keyB n.row):=by
     rintro W rfl
     refine (qqo hSet hFd (hg.step hsd) hcd).mono ?_
     rintro e w7 ⟨s7,c7,rfl,hk7,hc7⟩
     have hm7:=hmF.kept hk7
     obtain ⟨es7,clk7,hes7,hent7⟩:=hm7.map
     have hkeys7:zxi es7:=fun x hx=>by obtain ⟨m,_,e,_⟩:=hent7 x hx;exact ⟨_,e⟩
     obtain ⟨es',clk',hup,hnew,hfound⟩:=qvg (k:=keyB n.row) (.slice s7 n.tr.length c7) Tryz.underlying111 Tryz.underlying9 hes7 hkeys7
     have hpat:=ysc w7 (.map es' clk') hm7.lt.2.2
     have hps:=yen (F:=F) (w:=w7) (.map es' clk') hm.mF
     refine ⟨s7,c7,es',clk',rfl,by rw [cell_of_block hm7.known];rfl,hup,(hkd.trans hk7 fun _ h=>h.elim).trans (yeo _ _ _) fun x h=>.inl h,⟨?_,?_,⟨es',clk',hpat,fun x hx=> ?_⟩,hm.kF,hm.eF,hm.mF⟩,hpat,fun x hx=> ?_,hfound⟩
     ·exact (hps.keep kb hm.kF hm7.lt.1).trans hm7.known
     ·exact (hps.keep eb hm.eF hm7.lt.2.1).trans hm7.self
     ·rcases hnew x hx with h|⟨h1,h2⟩
      ·obtain ⟨m,g1,g2,g3⟩:=hent7 x h
       exact ⟨m,g1,g2,g3.step hps⟩
      ·exact ⟨n,hn,h1,by rw [h2];exact hc7.step hps⟩
     ·rcases hnew x hx with h|⟨h1,h2⟩
      ·exact hkeys7 x h
      ·exact ⟨_,h1⟩
    go_wp2
    go_region_with (go_at_call 48;refine (hcal _ rfl).mono ?_;rintro e w7 ⟨s7,c7,es',clk',rfl,hcl7,hup,hkp,hmp,hpat,hkeys,hfound⟩)
    all_goals
     have hclp:(putO w7 mb (.map es' clk')).cell? ⟨kb,0,none⟩=some (.map (some mb)):=by rw [cell_of_block hmp.known];rfl
     rcases qgx (k:=keyB n.row) Tryz.underlying111 Tryz.underlying9 hpat hkeys with ⟨x',hx',hxk',_,hl2⟩|⟨hno',_⟩
     ·clear hup hcl7 hcld hcal
      obtain ⟨es2,clk2,h2,hent2⟩:=hmp.map
      rw [hpat] at h2
      cases h2
      obtain ⟨m,g1,g2,g3⟩:=hent2 x' hx'
      have e:m=n:=qyi g1.1 hn.1 (by rw [g2] at hxk';exact Value.string.inj hxk')
      subst e
      obtain ⟨s',c',hv'⟩:=zca g3
      go_wp2
      go_ret
      exact ⟨s',c',rfl,hkp,hmp,by rw [←hv'];exact g3⟩
     ·obtain ⟨x',hx',hk'⟩:=hfound
      exact absurd hk' (hno' x' hx')
end Go.Proofs.YtjolkdjkhekbnaaGreatDoor.Sv
