/- What the explorer explores: its walk. -/
import Derived.Test.YtjolkdjkhekbnaaGreatDoorM18
import Derived.Lib.AppendStr
import Derived.Lib.ItoaNum
import Derived.Lib.ItoaWalk
set_option linter.unusedVariables false
set_option linter.unusedSimpArgs false
namespace Go.Proofs.YtjolkdjkhekbnaaGreatDoor.Sv
open Go Go.Sv Go.Proofs Go.Rd Go.RowKit
set_option maxRecDepth 100000
attribute [local go_sem] Oper.semAt_some
def keyB (l:List Nd):ByteArray:=⟨(keyL l).toArray⟩
theorem ymm [Dfr] {m n:Tm} (hm:m.fine) (hn:n.fine) (h:keyB m.row=keyB n.row):m=n:=by
 unfold keyB at h;injection h with h;have h2:keyL m.row=keyL n.row:=by
  have:=congrArg Array.toList h
  simpa using this
 exact Tm.qjm (yml (zjm hm) (zjm hn) h2)
structure Memo (F:Nat→Prop) (w:World) (kb eb mb:Nat):Prop where
 known:w.heap[kb]? =some (.cells #[.map (some mb)] 111 (0,0))
 self:w.heap[eb]? =some (.cells #[zfr 83 kb eb] 82 (0,0))
 map:∃es clk,w.heap[mb]? =some (.map es clk)∧∀x∈es.toList,∃n:Tm,Good n∧x.key= .string (keyB n.row)∧Cl F w (.slice 33 TcY) n.tr [x.val]
 kF:¬F kb
 eF:¬F eb
 mF:F mb
theorem Memo.lt [Dfr] {F:Nat→Prop} {w:World} {kb eb mb:Nat} (h:Memo F w kb eb mb):kb<w.heap.size∧eb<w.heap.size∧mb<w.heap.size:=by obtain ⟨es,clk,h3,_⟩:=h.map;exact ⟨(Array.getElem?_eq_some_iff.1 h.known).1,(Array.getElem?_eq_some_iff.1 h.self).1,(Array.getElem?_eq_some_iff.1 h3).1⟩
theorem Memo.step [Dfr] {F F':Nat→Prop} {w w':World} {kb eb mb:Nat} (h:Memo F w kb eb mb) (S:Step F F' w w') (hb:w'.heap[mb]? =w.heap[mb]?) (hF:F' mb):Memo F' w' kb eb mb:=by
 obtain ⟨l1,l2,l3⟩:=h.lt;obtain ⟨es,clk,h3,h4⟩:=h.map;refine ⟨(S.keep kb h.kF l1).trans h.known,(S.keep eb h.eF l2).trans h.self,⟨es,clk,hb.trans h3,fun x hx=> ?_⟩,fun hk=> ?_,fun hk=> ?_,hF⟩
 ·obtain ⟨n,g1,g2,g3⟩:=h4 x hx;exact ⟨n,g1,g2,g3.step S⟩
 ·rcases S.sub kb hk with hk|hk
  ·exact h.kF hk
  ·omega
 ·rcases S.sub eb hk with hk|hk
  ·exact h.eF hk
  ·omega
theorem Memo.kept [Dfr] {F:Nat→Prop} {w w':World} {kb eb mb:Nat} (h:Memo F w kb eb mb) (hk:Kept (fun _=>False) w w'):Memo F w' kb eb mb:=
 h.step (zbf hk fun _ h=>h.elim) (hk.block mb h.lt.2.2 id) h.mF
def xcl [Dfr] (n:Tm):Prop:=∀(w:World) (F:Nat→Prop) (v:Value) (kb eb mb:Nat),(∀b,F b→b<w.heap.size)→zdp E F w→Cl F w (.slice 68 NdY) n.row [v]→Memo F w kb eb mb→
 Calls Tryz.prog 83 #[v,.pointer (some ⟨kb,0,none⟩),.pointer (some ⟨eb,0,none⟩)] w fun e w'=>∃s c,e= .returned (.slice s n.tr.length c)∧Kept (fun b=>b=mb) w w'∧Memo F w' kb eb mb∧Cl F w' (.slice 33 TcY) n.tr [.slice s n.tr.length c]
def xkh [Dfr]:Prop:=∀(n:Tm),n.fine→n.size≤200→∀(w:World) (F:Nat→Prop) (v:Value),(∀b,F b→b<w.heap.size)→zdp E F w→Cl F w (.slice 68 NdY) n.row [v]→
 Calls Tryz.prog 84 #[v] w fun e w'=>e= .returned (.string (keyB n.row))∧Kept (fun _=>False) w w'
theorem znz [Dfr] (w:World) (cs:Array Value) (e:TypeId) (k:Nat) (v:Value) (h:cs[k]? =some v):(w.alloc (.cells cs e)).cell? ⟨w.heap.size,k,none⟩=some v:=by
 have:(w.alloc (.cells cs e)).heap[w.heap.size]? =some (.cells cs e (0,0)):=by show (w.heap.push _)[w.heap.size]? =_;rw [Array.getElem?_push,if_pos rfl]
 rw [cell_of_block this];exact h
theorem zcc [Dfr] (w:World) (o:Obj):Kept (fun _=>False) w (w.alloc o):=(Kept.refl _ w).alloc o
theorem ytd [Dfr] {F:Nat→Prop} {w:World} {mb:Nat} (o:Obj) (hm:F mb):Step F F w (putO w mb o):=
 ⟨fun b hb hl=>by show (w.heap.setIfInBounds mb o)[b]? =_;rw [Array.getElem?_setIfInBounds,if_neg (show ¬mb=b from fun e=>hb (e▸hm))],fun b h=>.inl h⟩
theorem yte [Dfr] (w:World) (mb:Nat) (o:Obj):Kept (fun b=>b=mb) w (putO w mb o):=by
 refine ⟨rfl,rfl,rfl,?_,fun b hb h=> ?_,Nat.le_refl _⟩
 ·show w.heap.size≤(w.heap.setIfInBounds mb o).size;simp
 ·show (w.heap.setIfInBounds mb o)[b]? =_;rw [Array.getElem?_setIfInBounds,if_neg (fun e=>h e.symm)]
theorem xgo [Dfr] (w:World) {mb:Nat} (o:Obj) (h:mb<w.heap.size):(putO w mb o).heap[mb]? =some o:=by show (w.heap.setIfInBounds mb o)[mb]? =_;simp [Array.getElem?_setIfInBounds,h]
theorem zml [Dfr] {G:Nat→Prop} {w w':World} (h:Kept (fun _=>False) w w'):Kept G w w':=⟨h.os,h.tape,h.output,h.size,fun b hb _=>h.block b hb id,h.drawn⟩
theorem xeh [Dfr] {F:Nat→Prop} {w:World} {A:List ByteArray} {z:Int} {s:Option Addr} {n c:Nat} (hF:∀b,F b→b<w.heap.size) (h:Cl F w StY A [.slice s n c]):
 Cl F (w.alloc (.cells #[.slice s n c,.int .i64 z] 33)) (.slice 33 TcY) [(A,z)] [.slice (some ⟨w.heap.size,0,none⟩) 1 1]:=by
 rw [Cl];refine ⟨_,1,rfl,Nat.le_refl _,.inr ⟨_,rfl,fun hf=>by have:=hF _ hf;simp only at this;omega,fun i x hi=> ?_⟩⟩;cases i with
 |succ i=>simp at hi
 |zero=>
  have hi':some (A,z)=some x:=hi;cases hi';refine ⟨[.slice s n c,.int .i64 z],?_,fun j u hj=> ?_⟩
  ·rw [Cl];exact ⟨[.slice s n c],[.int .i64 z],rfl,h.step (zbf (zcc w _) fun _ h=>h.elim),by rw [Cl]⟩
  ·match j,hj with
   |0,hj=>exact znz w _ _ 0 u hj
   |1,hj=>exact znz w _ _ 1 u hj
theorem xfh [Dfr] (s:Int):(Tm.over s).tr=[([],s)]:=rfl
set_option maxHeartbeats 3200000 in
theorem xbw [Dfr] [zdv] (s:Int):xcl (.over s):=by intro w F v kb eb mb hF hg hc hm;have hE:zdx (Tm.over s).row=some (s,true):=zfq (.over s);go_enter Tryz.func83,Tryz.ntmps83;go_wp2_with (go_at_fn 44);refine (zxu hE hF hg hc).mono ?_;rintro e w1 ⟨rfl,hk1⟩;go_wp2;go_ret;have hsz:=hk1.size;have hm1:=hm.kept hk1;refine ⟨some ⟨w1.heap.size,0,none⟩,1,rfl,zml (hk1.trans (zcc w1 _) fun _ h=>h.elim),hm1.kept (zcc w1 _),?_⟩;rw [xfh];refine xeh (fun b hb=>by have:=hF b hb;omega) ?_;rw [Cl];exact ⟨none,0,rfl,Nat.le_refl _,.inl rfl⟩
theorem ywe [Dfr] {w:World} {a:Addr} {v:Value} (h:w.cell? a=some v):∃b o,a=⟨b,o,none⟩:=by
 obtain ⟨b,o,sp⟩:=a;cases sp with
 |none=>exact ⟨b,o,rfl⟩
 |some q=>
  simp only [World.cell?] at h;split at h
  ·simp at h
  ·cases h
theorem zcl [Dfr] {w w':World} {G:Nat→Prop} (hk:Kept G w w') {a:Addr} {v:Value} (hG:¬G a.block) (h:w.cell? a=some v):w'.cell? a=some v:=by have hlt:=World.block_lt_of_cell? w a h;have:=hk.block a.block hlt hG;simp only [World.cell?,this] at h ⊢;exact h
theorem ysl [Dfr] [zdv] {t e:TypeId} {u:Ty} {i ie:TI} (hty:E.ti t=some i) (hd:i.d= .slice e) (he:E.ti e=some ie) (hsz:ie.size=u.sz) {F:Nat→Prop} {W:World} {xs:List u.den} {s:Option Addr} {c:Nat} (h:Cl F W (.slice e u) xs [.slice s xs.length c]) {k:Nat} (hk:k<xs.length):
 ∃(ab ao:Nat) (ds:List Value),(∀W':World,(Instr.indexAt t (.slice s xs.length c) (.int .i64 (k:Int))).run Tryz.prog W'= .ok (.pointer (some ⟨ab,ao,none⟩)) W')∧¬F ab∧Cl F W u xs[k] ds∧∀j v,ds[j]? =some v→W.cell? ⟨ab,ao+j,none⟩=some v:=by
 rw [Cl] at h;obtain ⟨A',c',e1,hc,h2⟩:=h;simp only [List.cons.injEq,Value.slice.injEq,and_true] at e1;obtain ⟨rfl,_,rfl⟩:=e1;rcases h2 with h2|⟨a,rfl,hF,hel⟩
 ·rw [h2] at hk;cases hk
 ·obtain ⟨ds,hds,hj⟩:=hel k xs[k] (List.getElem?_eq_getElem hk);have hlen:=hds.length;have hpos:=Ty.zoa u;obtain ⟨v0,hv0⟩:∃v0,ds[0]? =some v0:=⟨ds[0]'(by omega),List.getElem?_eq_getElem (by omega)⟩;have h0:=hj 0 v0 hv0;have hadd:∀j,a.add (k*u.sz+j)=(a.add (k*u.sz)).add j:=fun j=>by
   unfold Addr.add;by_cases h1:k*u.sz=0
   ·simp [h1]
   ·by_cases h2:j=0
    ·simp [h2]
    ·simp [h1,h2,Nat.add_assoc]
  have hblk:(a.add (k*u.sz)).block=a.block:=by unfold Addr.add;split<;>rfl
  rw [Nat.add_zero] at h0;obtain ⟨b,o,hbo⟩:=ywe h0;have hie:=(tab.types.ti _ _ he).info;obtain ⟨ti,hti,hts,_⟩:=hie;refine ⟨b,o,ds,fun W'=> ?_,by rw [hbo] at hblk;rw [show b=a.block from hblk];exact hF,hds,fun j v hv=> ?_⟩
  ·have:=qfc (tab.types.ti _ _ hty) hd a xs.length c .i64 (k:Int) ⟨by omega,by omega⟩ hti W';rw [Int.toNat_natCast,hts,hsz,hbo] at this;exact this
  ·have:=hj j v hv;rw [hadd,hbo,zhj] at this;exact this
theorem xjh [Dfr] [zdv] {F:Nat→Prop} {W:World} {xs:List Mv} {s:Option Addr} {c:Nat} (h:Cl F W (.slice 71 MvY) xs [.slice s xs.length c]) {k:Nat} (hk:k<xs.length):
 ∃ab ao,(∀W':World,(Instr.indexAt 58 (.slice s xs.length c) (.int .i64 (k:Int))).run Tryz.prog W'= .ok (.pointer (some ⟨ab,ao,none⟩)) W')∧¬F ab∧W.cell? ⟨ab,ao,none⟩=some (.int .i64 xs[k].1)∧W.cell? ⟨ab,ao+1,none⟩=some (.int .i64 xs[k].2):=by
 obtain ⟨ab,ao,ds,h1,h2,h3,h4⟩:=ysl (t:=58) rfl rfl rfl rfl h hk;rw [Cl] at h3;obtain ⟨c1,c2,rfl,e1,e2⟩:=h3;rw [Cl] at e1 e2;subst e1;subst e2;exact ⟨ab,ao,h1,h2,h4 0 _ rfl,h4 1 _ rfl⟩
theorem xkl [Dfr] [zdv] {F:Nat→Prop} {W:World} {xs:List Tc} {s:Option Addr} {c:Nat} (h:Cl F W (.slice 33 TcY) xs [.slice s xs.length c]) {k:Nat} (hk:k<xs.length):
 ∃ab ao va,(∀W':World,(Instr.indexAt 43 (.slice s xs.length c) (.int .i64 (k:Int))).run Tryz.prog W'= .ok (.pointer (some ⟨ab,ao,none⟩)) W')∧¬F ab∧W.cell? ⟨ab,ao,none⟩=some va∧W.cell? ⟨ab,ao+1,none⟩=some (.int .i64 xs[k].2)∧Cl F W StY xs[k].1 [va]:=by
 obtain ⟨ab,ao,ds,h1,h2,h3,h4⟩:=ysl (t:=43) rfl rfl rfl rfl h hk;rw [Cl] at h3;obtain ⟨c1,c2,rfl,e1,e2⟩:=h3;rw [Cl] at e2;subst e2;obtain ⟨s',c',rfl⟩:∃s' c',c1=[Value.slice s' xs[k].1.length c']:=by have e:=e1;rw [Cl] at e;obtain ⟨s',c',e,_⟩:=e;exact ⟨s',c',e⟩
 exact ⟨ab,ao,_,h1,h2,h4 0 _ rfl,h4 1 _ rfl,e1⟩
set_option maxHeartbeats 6400000 in
theorem xbx [Dfr] [zdv] [zcd] [zdi] [zji] (hkey:xkh) {n:Tm} (hn:Good n) (ho:n.zjb=false) (h8:cntW n.row≤8) (hIH:∀n':Tm,Good n'→cntW n'.row<cntW n.row→xcl n'):xcl n:=by
 intro w F v kb eb mb hF hg hc hm;have hE:zdx n.row=some (0,false):=by rw [zfq n];cases n<;>first|rfl|cases ho
 have hz:∀w,(zeroValue 43).run Tryz.prog w= .ok (.slice none 0 0) w:=fun w=>Tryz.zeroValue43 w
 have hlen:=hn.len;go_enter Tryz.func83,Tryz.ntmps83;go_wp2_with (go_at_fn 44);refine (zxu hE hF hg hc).mono ?_;rintro e w1 ⟨rfl,hk1⟩;have s1:Step F F w w1:=zbf hk1 fun _ h=>h.elim
 have hF1:∀b,F b→b<w1.heap.size:=fun b hb=>Nat.lt_of_lt_of_le (hF b hb) hk1.size
 have hm1:=hm.kept hk1;go_wp2_with (go_at_fn 84);refine (hkey n hn.1 (by have:=hn.2.2.2.1;omega) w1 F v hF1 (hg.step s1) (hc.step s1)).mono ?_;rintro e w2 ⟨rfl,hk2⟩;have hk02:Kept (fun _=>False) w w2:=hk1.trans hk2 fun _ h=>h.elim
 have s2:Step F F w w2:=zbf hk02 fun _ h=>h.elim
 have hF2:∀b,F b→b<w2.heap.size:=fun b hb=>Nat.lt_of_lt_of_le (hF b hb) hk02.size
 have hm2:=hm1.kept hk2;have hcell:w2.cell? ⟨kb,0,none⟩=some (.map (some mb)):=by rw [cell_of_block hm2.known];rfl
 obtain ⟨es,clk,hes,hent⟩:=hm2.map;have hkeys:qfq es:=fun x hx=>by obtain ⟨m,_,e,_⟩:=hent x hx;exact ⟨_,e⟩
 rcases qrn (k:=keyB n.row) Tryz.underlying111 Tryz.underlying9 hes hkeys with ⟨x,hx,hxk,hl1,_⟩|⟨hno,hl0⟩
 ·obtain ⟨m,g1,g2,g3⟩:=hent x hx;have e:m=n:=ymm g1.1 hn.1 (by rw [g2] at hxk;exact Value.string.inj hxk);subst e;obtain ⟨s',c',hv'⟩:=zcz g3;go_wp2;go_ret;refine ⟨s',c',?_,zml hk02,hm2,by rw [←hv'];exact g3⟩;rfl
 ·have hl1:=hl0 _ (hz w2);go_wp2_with (go_at_fn 28);clear hl1 hl0 hcell hz;refine (qim (zmk n.row (by omega)) hF2 (hg.step s2) (hc.step s2)).mono ?_;rintro e w3 ⟨sM,cM,rfl,hk3,hcM⟩;have hk03:Kept (fun _=>False) w w3:=hk02.trans hk3 fun _ h=>h.elim
  have hm3:=hm2.kept hk3;have hF3:∀b,F b→b<w3.heap.size:=fun b hb=>Nat.lt_of_lt_of_le (hF b hb) hk03.size
  have hL:=qkg n.row;go_wp2;go_loopw [10,41] (fun v10 v41 wr=>∃(k:Nat) (og:Option Nat),v41= .int .i64 (k:Int)∧k≤(enL n.row).length∧OwnO F wr 33 TcY (((enL n.row).take k).flatMap (zyw n.row)) v10 og∧(∀g,og=some g→w3.heap.size≤g∧g<wr.heap.size)∧
   Memo (ogF F og) wr kb eb mb∧Kept (fun b=>b=mb) w3 wr) (fun _ v41 _=>(enL n.row).length-(intOf v41).toNat)
  case atStart=>
   refine ⟨0,none,rfl,Nat.zero_le _,⟨rfl,none,rfl⟩,fun _ h=>(by cases h),?_,Kept.refl _ _⟩;exact hm3.step ⟨fun _ _ _=>rfl,fun b hb=>by
    rcases hb with hb|hb
    ·exact .inl hb
    ·cases hb⟩ rfl (.inl hm3.mF)
  case round=>
   obtain ⟨k,og,rfl,hk,hown,hog,hmr,hkr⟩:=hrel;by_cases hlt:k<(enL n.row).length
   ·have hk0r:Kept (fun b=>b=mb) w wr:=(zml hk03).trans hkr fun x h=>.inl h
    have hogw:∀g,og=some g→w.heap.size≤g:=fun g h=>Nat.le_trans hk03.size (hog g h).1
    have S0:Step F (ogF F og) w wr:=⟨fun b hb hl=>hk0r.block b hl fun e=>hb (e▸hm.mF),fun b hb=>hb.imp id fun h=>hogw b h⟩;have S3:Step F (ogF F og) w3 wr:=⟨fun b hb hl=>hkr.block b hl fun e=>hb (e▸hm.mF),fun b hb=>hb.imp id fun h=>(hog b h).1⟩;have hFr:∀b,ogF F og b→b<wr.heap.size:=fun b hb=>by
     rcases hb with hb|hb
     ·exact Nat.lt_of_lt_of_le (hF b hb) hk0r.size
     ·exact (hog b hb).2
    obtain ⟨ab,ao,hix,hab,hc0,hc1⟩:=xjh (hcM.step S3) hlt;have hmem:(enL n.row)[k]∈enL n.row:=List.getElem_mem hlt;have hdrop:(enL n.row).take (k+1)=(enL n.row).take k++[(enL n.row)[k]]:=by rw [List.take_add_one,List.getElem?_eq_getElem hlt];rfl
    obtain ⟨mv,hmv⟩:∃mv,(enL n.row)[k]=mv:=⟨_,rfl⟩;rw [hmv] at hmem hdrop hc0 hc1;obtain ⟨n',e1,e2,hg',hcnt,hst,hsz',_⟩:=zvx hn hmem;obtain ⟨_,_,_,hnm⟩:=qao hmem;obtain ⟨nm,hnmE⟩:∃nm,(zdc n.row mv).2.1=nm:=⟨_,rfl⟩;rw [hnmE] at hnm hst;have hN:zqs n.row mv=some (n'.row,nm,0):=by rw [qdy n.row mv (by omega)];exact congrArg some (Prod.ext e1 (Prod.ext hnmE e2))
    go_wp2_with (go_at_fn 41);obtain ⟨WA,hWA⟩:∃WA,wr.alloc (Obj.cells #[Value.int IntKind.i64 mv.1,Value.int IntKind.i64 mv.2] 71)=WA:=⟨_,rfl⟩;have kA:Kept (fun _=>False) wr WA:=hWA▸zcc wr _;have sA:Step (ogF F og) (ogF F og) wr WA:=zbf kA fun _ h=>h.elim
    have hcA1:WA.cell? ⟨wr.heap.size,1,none⟩=some (.int .i64 mv.2):=by rw [←hWA];exact znz wr _ _ 1 _ rfl
    have hFA:∀b,ogF F og b→b<WA.heap.size:=fun b hb=>Nat.lt_of_lt_of_le (hFr b hb) kA.size
    rw [hWA];refine (qwi hN hFA ((hg.step S0).step sA) ((hc.step S0).step sA)).mono ?_;rintro e w4 ⟨sN,cN,rfl,hk4,hcN⟩;have hc4:w4.cell? ⟨wr.heap.size,1,none⟩=some (.int .i64 mv.2):=zcl hk4 id hcA1;have k4:Kept (fun _=>False) wr w4:=kA.trans hk4 fun _ h=>h.elim
    have hmr4:Memo (ogF F og) w4 kb eb mb:=hmr.kept k4;have hgB:∀W,Kept (fun _=>False) w4 W→zdp E (ogF F og) W∧(∀b,ogF F og b→b<W.heap.size)∧Memo (ogF F og) W kb eb mb∧Cl (ogF F og) W (.slice 68 NdY) n'.row [.slice sN n'.row.length cN]∧
     W.cell? ⟨eb,0,none⟩=some (Value.func (Fn.func 83) #[] #[Value.pointer (some {block:=kb,off:=0}),Value.pointer (some {block:=eb,off:=0})]):=fun W hW=>by
     have SW:Step (ogF F og) (ogF F og) wr W:=zbf (k4.trans hW fun _ h=>h.elim) fun _ h=>h.elim
     have hmW:=hmr4.kept hW;exact ⟨(hg.step S0).step SW,fun b hb=>Nat.lt_of_lt_of_le (hFr b hb) (Nat.le_trans k4.size hW.size),hmW,hcN.step (zbf hW fun _ h=>h.elim),by rw [cell_of_block hmW.self];rfl⟩
    by_cases hw:mv.2=1
    case' pos=>
     have hne:(if nm=(⟨#[]⟩:ByteArray) then [] else [nm])=[nm]:=by rw [hw] at hnm;exact if_neg (of_decide_eq_false (hnm.trans rfl))
     rw [hw] at hc4;have hc5:(w4.alloc (Obj.cells #[Value.slice none 0 0,Value.int IntKind.i64 1] 33)).cell? ⟨wr.heap.size,1,none⟩=some (.int .i64 1):=zcl (zcc w4 _) id hc4;have kB:Kept (fun _=>False) w4 ((w4.alloc (Obj.cells #[Value.slice (some {block:=w4.heap.size+1,off:=0}) 1 1,Value.int IntKind.i64 1] 33)).alloc (Obj.cells #[Value.string nm] 9)):=(zcc w4 _).trans (zcc _ _) fun _ h=>h.elim
     have cB0:=zcl (zcc (w4.alloc (Obj.cells #[Value.slice (some {block:=w4.heap.size+1,off:=0}) 1 1,Value.int IntKind.i64 1] 33)) (Obj.cells #[Value.string nm] 9)) id (znz w4 #[Value.slice (some {block:=w4.heap.size+1,off:=0}) 1 1,Value.int IntKind.i64 1] 33 0 _ rfl);have cB1:=zcl (zcc (w4.alloc (Obj.cells #[Value.slice (some {block:=w4.heap.size+1,off:=0}) 1 1,Value.int IntKind.i64 1] 33)) (Obj.cells #[Value.string nm] 9)) id (znz w4 #[Value.slice (some {block:=w4.heap.size+1,off:=0}) 1 1,Value.int IntKind.i64 1] 33 1 _ rfl);obtain ⟨gB1,gB2,gB3,gB4,gB5⟩:=hgB _ kB;have clB:Cl (ogF F og) ((w4.alloc (Obj.cells #[Value.slice (some {block:=w4.heap.size+1,off:=0}) 1 1,Value.int IntKind.i64 1] 33)).alloc (Obj.cells #[Value.string nm] 9)) StY (if nm=(⟨#[]⟩:ByteArray) then [] else [nm]) [Value.slice (some {block:=w4.heap.size+1,off:=0}) 1 1]:=by
      rw [hne,Cl];refine ⟨_,1,rfl,Nat.le_refl _,.inr ⟨_,rfl,fun hf=> ?_,fun i x hi=> ?_⟩⟩
      ·have:=hFr _ hf;have h2:=k4.size;simp only at this;omega
      ·cases i with
       |succ i=>simp at hi
       |zero=>
        have hi':some nm=some x:=hi;cases hi';refine ⟨[.string nm],by rw [Cl],fun j u hj=> ?_⟩
        match j,hj with
        |0,hj=>have:=znz (w4.alloc (Obj.cells #[Value.slice (some {block:=w4.heap.size+1,off:=0}) 1 1,Value.int IntKind.i64 1] 33)) #[Value.string nm] 9 0 u hj;rw [World.size_alloc] at this;exact this
     go_wp2_with (refine (hIH n' hg' hcnt _ _ _ kb eb mb gB2 gB1 gB4 gB3).mono ?_;rintro e w5 ⟨sR,cR,rfl,hk5,hm5,hcR⟩)
    case' neg=>
     have hne:(if nm=(⟨#[]⟩:ByteArray) then [] else [nm])=[]:=by rw [decide_eq_false hw] at hnm;exact if_pos (of_decide_eq_true (hnm.trans rfl))
     have hc5:(w4.alloc (Obj.cells #[Value.slice none 0 0,Value.int IntKind.i64 1] 33)).cell? ⟨wr.heap.size,1,none⟩=some (.int .i64 mv.2):=zcl (zcc w4 _) id hc4;have kB:Kept (fun _=>False) w4 (w4.alloc (Obj.cells #[Value.slice none 0 0,Value.int IntKind.i64 1] 33)):=zcc w4 _;have cB0:=znz w4 #[Value.slice none 0 0,Value.int IntKind.i64 1] 33 0 _ rfl;have cB1:=znz w4 #[Value.slice none 0 0,Value.int IntKind.i64 1] 33 1 _ rfl;obtain ⟨gB1,gB2,gB3,gB4,gB5⟩:=hgB _ kB;have clB:Cl (ogF F og) (w4.alloc (Obj.cells #[Value.slice none 0 0,Value.int IntKind.i64 1] 33)) StY (if nm=(⟨#[]⟩:ByteArray) then [] else [nm]) [Value.slice none 0 0]:=by rw [hne,Cl];exact ⟨none,0,rfl,Nat.le_refl _,.inl rfl⟩
     go_wp2_with (refine (hIH n' hg' hcnt _ _ _ kb eb mb gB2 gB1 gB4 gB3).mono ?_;rintro e w5 ⟨sR,cR,rfl,hk5,hm5,hcR⟩)
    all_goals
     clear hgB hix hc0 hc1 hcA1 hc4 gB1 gB2 gB4 gB5;obtain ⟨A,hA⟩:∃A,(if nm=(⟨#[]⟩:ByteArray) then [] else [nm])=A:=⟨_,rfl⟩;rw [hA] at clB hne;have hAl:A.length≤1:=by rw [hne];simp
     clear hne;have hmbr:=hmr.lt.2.2;have k4s:=k4.size;have k5:Kept (fun b=>b=mb) wr w5:=(zml (k4.trans kB fun _ h=>h.elim)).trans hk5 fun x h=>.inl h
     have st5:Step (ogF F og) (ogF F og) wr w5:=zbf k5 fun b h=>.inl (h▸hm.mF)
     have cw1:w5.cell? ⟨w4.heap.size,1,none⟩=some (.int .i64 1):=zcl hk5 (fun h=>by simp only at h;omega) cB1;obtain ⟨va,cw0,clA⟩:∃va,w5.cell? ⟨w4.heap.size,0,none⟩=some va∧Cl (ogF F og) w5 StY A [va]:=⟨_,zcl hk5 (fun h=>by simp only at h;omega) cB0,clB.step (zbf hk5 fun b h=>.inl (h▸hm.mF))⟩;have hw45:w4.heap.size<w5.heap.size:=World.block_lt_of_cell? w5 _ cw1;have hogm:∀g,og=some g→g≠mb:=fun g h e=>by have h1:=(hog g h).1;have h2:=hm3.lt.2.2;omega
     have hown5:OwnO F w5 33 TcY (((enL n.row).take k).flatMap (zyw n.row)) u10 og:=qby hown st5 fun g h=>k5.block g (hog g h).2 (hogm g h)
     have hsh:∀x∈n'.tr,x.1.length≤6:=zbm hg'.2.2.2;have hlt8:=qon hg' (by omega);have hall:=ycw hn h8;obtain ⟨T,hT⟩:∃T,((enL n.row).take k).flatMap (zyw n.row)=T:=⟨_,rfl⟩;have hTl:(T++zyw n.row mv).length≤11000000:=by
      have e3:T++zyw n.row mv=((enL n.row).take (k+1)).flatMap (zyw n.row):=by rw [hdrop,List.flatMap_append,hT];simp
      rw [e3];refine Nat.le_trans ?_ hall;have e4:=congrArg (List.flatMap (zyw n.row)) (List.take_append_drop (k+1) (enL n.row));rw [List.flatMap_append] at e4;have e5:=congrArg List.length e4;rw [List.length_append] at e5;omega
     rw [hT] at hown5;clear cB0 cB1 clB kB gB3 hc5 hk5;obtain ⟨wo,hwo⟩:∃wo,wo=wr:=⟨_,rfl⟩;subst hwo;go_loopw [10,63] (fun v10 v63 wi=>∃(j:Nat) (og2:Option Nat),v63= .int .i64 (j:Int)∧j≤n'.tr.length∧OwnO F wi 33 TcY (T++zmx nm (n'.tr.take j)) v10 og2∧(∀g,og2=some g→(og=some g∨w5.heap.size≤g)∧g<wi.heap.size)∧Kept (fun b=>og=some b) w5 wi) (fun _ v63 _=>n'.tr.length-(intOf v63).toNat)
     case atStart=>refine ⟨0,og,rfl,Nat.zero_le _,?_,fun g h=>⟨.inl h,Nat.lt_of_lt_of_le (hog g h).2 k5.size⟩,Kept.refl _ _⟩;rw [List.take_zero,show zmx nm []=[] from rfl,List.append_nil];exact hown5
     case round=>
      obtain ⟨j,og2,rfl,hj,hown2,hog2,hki⟩:=hrel;have hk5s:=k5.size;have hkis:=hki.size;have hog2w:∀g,og2=some g→w3.heap.size≤g:=fun g h=>by
       rcases (hog2 g h).1 with h|h
       ·exact (hog g h).1
       ·have:=hkr.size;omega
      have S5:Step (ogF F og) (ogF F og2) w5 wr:=⟨fun b hb hl=>hki.block b hl fun h=>hb (.inr h),fun b hb=>by
       rcases hb with hb|hb
       ·exact .inl (.inl hb)
       ·exact ((hog2 b hb).1).imp .inr id⟩
      have hm5i:Memo (ogF F og2) wr kb eb mb:=hm5.step S5 (hki.block mb hm5.lt.2.2 fun h=>hogm mb h rfl) (.inl hm.mF);by_cases hjt:j<n'.tr.length
      ·obtain ⟨ab2,ao2,vt,hix2,hab2,hd0,hd1,hclt⟩:=xkl (hcR.step S5) hjt;have ca0:wr.cell? ⟨w4.heap.size,0,none⟩=some va:=zcl hki (fun h=>by have:=(hog _ h).2;simp only at this;omega) cw0;have ca1:wr.cell? ⟨w4.heap.size,1,none⟩=some (.int .i64 1):=zcl hki (fun h=>by have:=(hog _ h).2;simp only at this;omega) cw1;have clA2:Cl (ogF F og2) wr StY A [va]:=clA.step S5;obtain ⟨t,ht⟩:∃t,n'.tr[j]=t:=⟨_,rfl⟩;have htm:t∈n'.tr:=ht▸List.getElem_mem hjt;have htl:=hsh t htm;rw [ht] at hd1 hclt;obtain ⟨r,hr⟩:∃r:Tc,(A++t.1,t.2)=r:=⟨_,rfl⟩;have hTh:zul (A,1) t=some r:=by rw [ycj _ _ (show A.length+t.1.length≤1000000000 by omega),←hr];rfl
       have hgi:zdp E (ogF F og2) wr:=((hg.step S0).step st5).step S5;have hFi:∀b,ogF F og2 b→b<wr.heap.size:=fun b hb=>by
        rcases hb with hb|hb
        ·have:=hF3 b hb;have:=hkr.size;omega
        ·exact (hog2 b hb).2
       have hT1:(wr.alloc (Obj.cells #[vt,Value.int IntKind.i64 t.2] 33)).cell? ⟨w4.heap.size,0,none⟩=some va:=zcl (zcc wr _) id ca0;have hT2:(wr.alloc (Obj.cells #[vt,Value.int IntKind.i64 t.2] 33)).cell? ⟨w4.heap.size,1,none⟩=some (.int .i64 1):=zcl (zcc wr _) id ca1;have kT:=zcc wr (Obj.cells #[vt,Value.int IntKind.i64 t.2] 33);have sT:Step (ogF F og2) (ogF F og2) wr (wr.alloc (Obj.cells #[vt,Value.int IntKind.i64 t.2] 33)):=zbf kT fun _ h=>h.elim
       have hFT:∀b,ogF F og2 b→b<(wr.alloc (Obj.cells #[vt,Value.int IntKind.i64 t.2] 33)).heap.size:=fun b hb=>Nat.lt_of_lt_of_le (hFi b hb) kT.size
       have hcal:=ynl (p:=(A,1)) (q:=t) hTh hFT (hgi.step sT) (clA2.step sT) (hclt.step sT);obtain ⟨s',c',rfl⟩:=zcz hclt;go_wp2_with (go_at_fn 85);refine hcal.mono ?_;rintro e w7 ⟨s7,c7,rfl,hk7,hc7⟩;have k8:=zcc w7 (Obj.cells #[Value.slice s7 r.1.length c7,Value.int IntKind.i64 r.2] 33);have kt7:Kept (fun _=>False) wr w7:=kT.trans hk7 fun _ h=>h.elim
       have kt8:=kt7.trans k8 fun _ h=>h.elim
       have st8:=zbf (F:=ogF F og2) kt8 fun _ h=>h.elim
       have hF7:∀b,ogF F og2 b→b<w7.heap.size:=fun b hb=>Nat.lt_of_lt_of_le (hFi b hb) kt7.size
       have hkrs:=hkr.size;have hkt8:=kt8.size;have hF8:∀b,F b→b<(w7.alloc (Obj.cells #[Value.slice s7 r.1.length c7,Value.int IntKind.i64 r.2] 33)).heap.size∧og2≠some b:=fun b hb=>by have h1:=hF3 b hb;exact ⟨by omega,fun h=>by have:=hog2w b h;omega⟩
       have hog8:∀g,og2=some g→g<(w7.alloc (Obj.cells #[Value.slice s7 r.1.length c7,Value.int IntKind.i64 r.2] 33)).heap.size:=fun g h=>Nat.lt_of_lt_of_le (hog2 g h).2 hkt8
       have hown8:=qby hown2 st8 fun g h=>kt8.block g (hog2 g h).2 id
       have hcl8:=xeh (z:=r.2) hF7 hc7;have hlen8:(T++zmx nm (n'.tr.take j)).length≤11000000:=by
        rw [hst,List.length_append] at hTl;rw [List.length_append];have e6:(zmx nm (n'.tr.take j)).length≤(zmx nm n'.tr).length:=by unfold zmx;rw [List.length_map,List.length_map,List.length_take];omega
        omega
       have hroom8:zae ((T++zmx nm (n'.tr.take j)).length+1) 32=true:=room (by omega);have hstep:T++zmx nm (n'.tr.take j)++[r]=T++zmx nm (n'.tr.take (j+1)):=by
        rw [List.append_assoc,←hr]
        congr 1
        unfold zmx;rw [List.take_add_one,List.getElem?_eq_getElem hjt,ht,List.map_append,hA];rfl
       go_wp2_with (at_builtin;refine qvm rfl _ _ 43 rfl (u:=TcY) (F:=F) (xs:=T++zmx nm (n'.tr.take j)) (ys:=[r]) (og:=og2) rfl rfl rfl rfl rfl rfl hF8 hog8 (hgi.step st8) hown8 hcl8 hroom8 ?_;intro v' w9 og' hown9 hk9 hfr hl9);go_wp2;rw [hstep] at hown9;refine ⟨⟨j+1,og',by go_num,by omega,hown9,fun g h=>⟨?_,hl9 g h⟩,(hki.trans (zml (G:=fun b=>og=some b) kt8) fun x h=>.inl h).trans hk9 fun x h=>(hog2 x h).1⟩,by simp [intOf];omega⟩;rcases hfr g h with h|h
       ·exact (hog2 g h).1
       ·exact .inr (by omega)
      ·go_wp2;have hje:j=n'.tr.length:=by omega
       subst hje;rw [List.take_length,←hst] at hown2;refine ⟨⟨k+1,og2,by go_num,by omega,?_,fun g h=>⟨hog2w g h,(hog2 g h).2⟩,hm5i,(hkr.trans k5 fun x h=>.inl h).trans hki fun x h=>.inr (hog x h).1⟩,by simp [intOf];omega⟩;rw [hdrop,List.flatMap_append,hT,List.flatMap_cons,List.flatMap_nil,List.append_nil];exact hown2
   ·have hke:k=(enL n.row).length:=by omega
    subst hke;rw [List.take_length] at hown;obtain ⟨T,hT⟩:∃T,(enL n.row).flatMap (zyw n.row)=T:=⟨_,rfl⟩;have hall:=ycw hn h8;have hsa:=ylp hn ho;have hTm:∀x∈T,x∈n.tr:=fun x hx=>(qyh hn.set hn.2.2.1 hn.2.2.2 ho x).1 (hT▸hx)
    rw [hT] at hown hall hsa;have hTs:zgq T:=fewT.short fun x hx=>Nat.le_trans (zbm hn.2.2.2 x (hTm x hx)) (by decide)
    have hSet:zum T=some n.tr:=by rw [qoi T (by omega) hTs,hsa]
    have hkd:Kept (fun b=>b=mb) w wr.drew:=((zml hk03).trans hkr fun x h=>.inl h).drew;have hmd:Memo (ogF F og) wr.drew kb eb mb:=hmr.kept (Kept.refl _ wr).drew;have hogw:∀g,og=some g→¬F g:=fun g h hf=>by have h1:=hF3 g hf;have h2:=(hog g h).1;omega
    have hcd:Cl F wr.drew (.slice 33 TcY) T [u10]:=xeg (qby hown (zbf (Kept.refl (fun _=>False) wr).drew fun _ h=>h.elim) fun g h=>rfl) hogw;have hsd:Step F F w wr.drew:=zbf hkd fun b h=>h▸hm.mF
    have hFd:∀b,F b→b<wr.drew.heap.size:=fun b hb=>Nat.lt_of_lt_of_le (hF b hb) hkd.size
    have hmF:Memo F wr.drew kb eb mb:=hmd.step ⟨fun _ _ _=>rfl,fun b hb=>.inl (.inl hb)⟩ rfl hm.mF;have hcld:wr.drew.cell? ⟨kb,0,none⟩=some (.map (some mb)):=by rw [cell_of_block hmF.known];rfl
    have hnk:kb≠mb:=fun e=>hm.kF (e▸hm.mF)
    have hcal:∀W,W=wr.drew→Calls Tryz.prog 48 #[u10] W fun e w7=>∃s7 c7 es' clk',e= .returned (.slice s7 n.tr.length c7)∧w7.cell? ⟨kb,0,none⟩=some (.map (some mb))∧
     (Instr.mapUpdate 111 (.map (some mb)) (.string (keyB n.row)) (.slice s7 n.tr.length c7)).run Tryz.prog w7= .ok () (putO w7 mb (.map es' clk'))∧
     Kept (fun b=>b=mb) w (putO w7 mb (.map es' clk'))∧Memo F (putO w7 mb (.map es' clk')) kb eb mb∧(putO w7 mb (.map es' clk')).heap[mb]? =some (.map es' clk')∧qfq es'∧∃x∈es'.toList,x.key= .string (keyB n.row):=by
     rintro W rfl;refine (ydh hSet hFd (hg.step hsd) hcd).mono ?_;rintro e w7 ⟨s7,c7,rfl,hk7,hc7⟩;have hm7:=hmF.kept hk7;obtain ⟨es7,clk7,hes7,hent7⟩:=hm7.map;have hkeys7:qfq es7:=fun x hx=>by obtain ⟨m,_,e,_⟩:=hent7 x hx;exact ⟨_,e⟩
     obtain ⟨es',clk',hup,hnew,hfound⟩:=yjh (k:=keyB n.row) (.slice s7 n.tr.length c7) Tryz.underlying111 Tryz.underlying9 hes7 hkeys7;have hpat:=xgo w7 (.map es' clk') hm7.lt.2.2;have hps:=ytd (F:=F) (w:=w7) (.map es' clk') hm.mF;refine ⟨s7,c7,es',clk',rfl,by rw [cell_of_block hm7.known];rfl,hup,(hkd.trans hk7 fun _ h=>h.elim).trans (yte _ _ _) fun x h=>.inl h,⟨?_,?_,⟨es',clk',hpat,fun x hx=> ?_⟩,hm.kF,hm.eF,hm.mF⟩,hpat,fun x hx=> ?_,hfound⟩
     ·exact (hps.keep kb hm.kF hm7.lt.1).trans hm7.known
     ·exact (hps.keep eb hm.eF hm7.lt.2.1).trans hm7.self
     ·rcases hnew x hx with h|⟨h1,h2⟩
      ·obtain ⟨m,g1,g2,g3⟩:=hent7 x h;exact ⟨m,g1,g2,g3.step hps⟩
      ·exact ⟨n,hn,h1,by rw [h2];exact hc7.step hps⟩
     ·rcases hnew x hx with h|⟨h1,h2⟩
      ·exact hkeys7 x h
      ·exact ⟨_,h1⟩
    go_wp2;go_region_with (go_at_call 48;refine (hcal _ rfl).mono ?_;rintro e w7 ⟨s7,c7,es',clk',rfl,hcl7,hup,hkp,hmp,hpat,hkeys,hfound⟩)
    all_goals
     have hclp:(putO w7 mb (.map es' clk')).cell? ⟨kb,0,none⟩=some (.map (some mb)):=by rw [cell_of_block hmp.known];rfl
     rcases qrn (k:=keyB n.row) Tryz.underlying111 Tryz.underlying9 hpat hkeys with ⟨x',hx',hxk',_,hl2⟩|⟨hno',_⟩
     ·clear hup hcl7 hcld hcal;obtain ⟨es2,clk2,h2,hent2⟩:=hmp.map;rw [hpat] at h2;cases h2;obtain ⟨m,g1,g2,g3⟩:=hent2 x' hx';have e:m=n:=ymm g1.1 hn.1 (by rw [g2] at hxk';exact Value.string.inj hxk');subst e;obtain ⟨s',c',hv'⟩:=zcz g3;go_wp2;go_ret;exact ⟨s',c',rfl,hkp,hmp,by rw [←hv'];exact g3⟩
     ·obtain ⟨x',hx',hk'⟩:=hfound;exact absurd hk' (hno' x' hx')
def byV (l:List UInt8):List Value:=l.map fun b=>.int .u8 b.toNat
theorem xhp [Dfr] (s:ByteArray):Lib.strCells s=byV s.data.toList:=rfl
theorem ywg [Dfr] (a b:List UInt8):byV (a++b)=byV a++byV b:=List.map_append ..
abbrev OwnB (base:Nat) (w:World) (v:Value) (l:List UInt8):Prop:=w.ownsRow base 5 1 v l.length (byV l)
theorem yqx [Dfr]:∃i:TypeInfo,Tryz.prog.info? 5=some i∧i.zero=some (.int .u8 0)∧i.size=1∧i.bytes=1:=
 info_parts (P:=Tryz.prog) (e:=5) (z:=.int .u8 0) (size:=1) (bytes:=1) (by kernel_rfl)
theorem yrg [Dfr] {ops:Array Oper} {rest:List Oper} {o:Oper} {a:Act} {Q:Exit→Act→World→Prop} {w:World} (hgd:o.guard=none) (s x:Operand) (hop:o.op=Op.call {callee:=Callee.builtin Builtin.append,args:= #[s,x],argTypes:= #[152,9]})
 (base:Nat) (v:Value) (l:List UInt8) (t:ByteArray) (hs:a.eval s=v) (hx:a.eval x= .string t) (hown:OwnB base w v l) (hb:base≤w.heap.size) (hlim:l.length+t.data.toList.length≤1000000)
 (hK:∀v' w',OwnB base w' v' (l++t.data.toList)→Kept (fun b=>v.ownBlock=some b) w w'→wpList Tryz.prog ops Q rest (a.put o.dst v') w'):wpList Tryz.prog ops Q (o::rest) a w:=by
 obtain ⟨i,hi,hz,h1,h2⟩:=yqx;have hsz:t.size=t.data.toList.length:=by rw [Array.length_toList];rfl
 refine wpList_plain hgd fun K hK'=> ?_
 obtain ⟨v',w',hrun,r1,r2,_⟩:=Lib.run_append_own_string (P:=Tryz.prog) w base 152 9 o.type 5 i Tryz.underlying152 Tryz.underlying9 hi hz h1 h2 v _ _ hown t (by simp only [maxLen];omega) (by omega) hb;unfold Oper.wp;simp [execOp,hop,resolve,invoke,builtin,hs,hx,hrun,Result.andThen];refine hK' _ _ (hK v' w' ?_ (qcc r2 (zdb _ hrun)));unfold OwnB;rw [List.length_append,ywg,←xhp,←hsz];exact r1
theorem yup [Dfr] {ops:Array Oper} {rest:List Oper} {o:Oper} {a:Act} {Q:Exit→Act→World→Prop} {w:World} (hgd:o.guard=none) (s x:Operand) (hop:o.op=Op.call {callee:=Callee.builtin Builtin.append,args:= #[s,x],argTypes:= #[152,152]})
 (base:Nat) (v:Value) (l:List UInt8) (b:UInt8) (ad:Addr) (c:Nat) (hs:a.eval s=v) (hx:a.eval x= .slice (some ad) 1 c) (hc:w.cell? ad=some (.int .u8 b.toNat)) (hown:OwnB base w v l) (hb:base≤w.heap.size) (hlim:l.length+1≤1000000)
 (hK:∀v' w',OwnB base w' v' (l++[b])→Kept (fun b=>v.ownBlock=some b) w w'→wpList Tryz.prog ops Q rest (a.put o.dst v') w'):wpList Tryz.prog ops Q (o::rest) a w:=by
 obtain ⟨i,hi,hz,h1,h2⟩:=yqx;refine wpList_plain hgd fun K hK'=> ?_
 obtain ⟨v',w',hrun,r1,r2,_⟩:=run_append_own (P:=Tryz.prog) w base 152 o.type 5 i _ 1 1 Tryz.underlying152 hi hz h1 h2 rfl Nat.one_pos v _ _ hown ad 1 c [.int .u8 b.toNat] rfl (fun j u hj=>by
  match j,hj with
  |0,hj=>cases hj;simpa [Addr.add] using hc) (fun u hu=>by
  cases hu with
  |head=>rfl
  |tail _ h=>cases h) (by simp only [maxLen];omega) (by omega) hb
 unfold Oper.wp;simp [execOp,hop,resolve,invoke,builtin,hs,hx,hrun,Result.andThen];refine hK' _ _ (hK v' w' ?_ (qcc r2 (zdb _ hrun)));unfold OwnB;rw [List.length_append,ywg];exact r1
theorem yuq [Dfr] (w:World) (b:UInt8) (n:Int) (hn:n=b.toNat):(w.alloc (.cells #[.int .u8 n] 5)).cell? ⟨w.heap.size,0,none⟩=some (.int .u8 b.toNat):=by subst hn;exact znz w _ _ 0 _ rfl
theorem xex [Dfr] {i:Nat} (h:i<100):Lib.decDigits i=dg i:=by
 unfold dg;split
 ·exact Lib.decDigits_one (by assumption)
 ·exact Lib.decDigits_two (by assumption) h
theorem xkc [Dfr] {x:ByteArray} {l:List UInt8} (h:x.data.toList=l):x=⟨l.toArray⟩:=by subst h;cases x;simp
set_option maxHeartbeats 2000000 in
theorem yhr [Dfr] (i:Nat) (h:i<100) (w:World):Calls Tryz.prog 257 #[.int .i64 i] w fun e w'=>e= .returned (.string ⟨(dg i).toArray⟩)∧w'=w:=by
 go_enter Tryz.func257,Tryz.ntmps257;go_name_bytes_deep 45 SM hSM;have eSM:SM=Lib.smalls:=by rw [←hSM];decide +kernel
 subst eSM;clear hSM;go_name_bytes_deep 30 DG hDG;have eDG:DG=Lib.digits36:=by rw [←hDG];decide +kernel
 subst eDG;clear hDG;by_cases h10:i<10
 ·have hsl:∀w,(Instr.slice 9 (.string Lib.digits36) (some (.int .i64 (i:Int))) (some (.int .i64 ((i:Int)+1))) none).run Tryz.prog w= .ok (.string (Lib.digits36.extract i (i+1))) w:=fun w=>by rw [run_slice_string w 9 Lib.digits36 .i64 .i64 _ _ Tryz.underlying9 (by omega) (by omega) (by rw [Lib.digits36_size];omega),show ((i:Int)).toNat=i by omega,show ((i:Int)+1).toNat=i+1 by omega]
  go_wp2;go_ret;refine ⟨?_,rfl⟩;show Ending.returned (Value.string (Lib.digits36.extract i (i+1)))=_;rw [xkc (x:=Lib.digits36.extract i (i+1)) (l:=dg i) (by rw [Lib.extract_data,←xex h];exact Lib.digits36_piece h10)]
 ·have hsl:∀w,(Instr.slice 9 (.string Lib.smalls) (some (.int .i64 ((i:Int)*2))) (some (.int .i64 ((i:Int)*2+2))) none).run Tryz.prog w= .ok (.string (Lib.smalls.extract (i*2) (i*2+2))) w:=fun w=>by rw [run_slice_string w 9 Lib.smalls .i64 .i64 _ _ Tryz.underlying9 (by omega) (by omega) (by rw [Lib.smalls_size];omega),show ((i:Int)*2).toNat=i*2 by omega,show ((i:Int)*2+2).toNat=i*2+2 by omega]
  go_wp2;go_ret;refine ⟨?_,rfl⟩;show Ending.returned (Value.string (Lib.smalls.extract (i*2) (i*2+2)))=_;rw [xkc (x:=Lib.smalls.extract (i*2) (i*2+2)) (l:=dg i) (by rw [Lib.extract_data,←xex h];exact Lib.smalls_piece h10 h)]
def AppI (f:Nat) (k:IntKind):Prop:=∀(i:Nat),i<100→∀(w:World) (base:Nat) (v:Value) (l:List UInt8),base≤w.heap.size→OwnB base w v l→l.length≤900000→
 Calls Tryz.prog f #[v,.int k i,.int .i64 10] w fun e w'=>∃v',e= .returned v'∧OwnB base w' v' (l++dg i)∧Kept (fun b=>v.ownBlock=some b) w w'
theorem ygm [Dfr] {i:Nat}:(dg i).length≤2:=by unfold dg;split<;>simp
set_option maxHeartbeats 2000000 in
theorem appU [Dfr]:AppI 247 .u64:=by intro i hi w base v l hb hown hl;have hd:=ygm (i:=i);go_enter Tryz.func247,Tryz.ntmps247;go_wp2_with (go_at_fn 257);refine (yhr i hi _).mono ?_;rintro e w1 ⟨rfl,rfl⟩;go_wp2_with (at_builtin;refine yrg rfl _ _ rfl base v l _ rfl rfl hown hb (by show l.length+(dg i).length≤_;omega) ?_;intro v' w' hown' hk');go_wp2;go_ret;exact ⟨v',rfl,hown',hk'⟩
set_option maxHeartbeats 2000000 in
theorem appS [Dfr]:AppI 206 .i64:=by intro i hi w base v l hb hown hl;go_enter Tryz.func206,Tryz.ntmps206;go_wp2_with (go_at_fn 247);refine (appU i hi w base v l hb hown hl).mono ?_;rintro e w1 ⟨v',rfl,hown',hk'⟩;go_wp2;go_ret;exact ⟨v',rfl,hown',hk'⟩
set_option maxHeartbeats 2000000 in
theorem appI [Dfr]:AppI 141 .i64:=by intro i hi w base v l hb hown hl;go_enter Tryz.func141,Tryz.ntmps141;go_wp2_with (go_at_fn 206);refine (appS i hi w base v l hb hown hl).mono ?_;rintro e w1 ⟨v',rfl,hown',hk'⟩;go_wp2;go_ret;exact ⟨v',rfl,hown',hk'⟩
theorem qjt [Dfr] {base:Nat} {w:World} {v:Value} {l:List UInt8} (h:OwnB base w v l) {g:Nat} (hg:v.ownBlock=some g):base≤g∧∃cur,w.heap[g]? =some (.cells cur 5 (0,0)):=by
 rcases h.2 with ⟨rfl,_⟩|⟨g',cap,cur,rfl,h1,h2,_⟩
 ·cases hg
 ·cases hg;exact ⟨h1,cur,h2⟩
theorem xcb [Dfr] {base:Nat} {w:World} {v:Value} {l:List UInt8} (h:OwnB base w v l):(convert 152 9 v).run Tryz.prog w= .ok (.string ⟨l.toArray⟩) w:=by
 obtain ⟨h0,h1⟩:=h;rcases h1 with ⟨rfl,h1⟩|⟨g,cap,cur,rfl,_,hh,hn,_,hc,ht⟩
 ·have:l=[]:=List.eq_nil_of_length_eq_zero h1;subst this;exact run_convert_bytes_nil (P:=Tryz.prog) w 152 5 Tryz.underlying152 Tryz.underlying5 0 0 9 Tryz.underlying9
 ·have:=run_convert_bytes_arg (P:=Tryz.prog) w 152 5 Tryz.underlying152 Tryz.underlying5 g 0 l.length cap (l.map fun b=>(b.toNat:Int)) (by simp) (fun i hi=>by
   have h3:(byV l)[i]? =some (.int .u8 l[i].toNat):=by unfold byV;simp [hi]
   rw [←ht,List.getElem?_take,if_pos (by omega),Array.getElem?_toList] at h3;rw [cell_of_block hh,Nat.zero_add,h3];simp [List.getD,hi]) 9 Tryz.underlying9
  rw [this]
  congr 2
  unfold strOfNums
  congr 2
  rw [List.map_map];refine (List.map_congr_left fun b _=> ?_).trans (List.map_id l);show UInt8.ofNat ((b.toNat:Int)).toNat=b;rw [Int.toNat_natCast];exact UInt8.ofNat_toNat
theorem xks [Dfr] [zdv] {F:Nat→Prop} {W:World} {xs:List Nd} {s:Option Addr} {c:Nat} (h:Cl F W (.slice 68 NdY) xs [.slice s xs.length c]) {k:Nat} (hk:k<xs.length):
 ∃ab ao,(∀W':World,(Instr.indexAt 22 (.slice s xs.length c) (.int .i64 (k:Int))).run Tryz.prog W'= .ok (.pointer (some ⟨ab,ao,none⟩)) W')∧¬F ab∧W.cell? ⟨ab,ao,none⟩=some (.int .i64 xs[k].1)∧W.cell? ⟨ab,ao+1,none⟩=some (.string xs[k].2.1)∧W.cell? ⟨ab,ao+2,none⟩=some (.int .i64 xs[k].2.2):=by
 obtain ⟨ab,ao,ds,h1,h2,h3,h4⟩:=ysl (t:=22) rfl rfl rfl rfl h hk;rw [Cl] at h3;obtain ⟨c1,c2,rfl,e1,e2⟩:=h3;have e1:c1=[.int .i64 xs[k].1]:=e1;obtain ⟨c3,c4,rfl,e3,e4⟩:=e2;have e3:c3=[.string xs[k].2.1]:=e3;have e4:c4=[.int .i64 xs[k].2.2]:=e4;subst e1;subst e3;subst e4;exact ⟨ab,ao,h1,h2,h4 0 _ rfl,h4 1 _ rfl,h4 2 _ rfl⟩
theorem ymb [Dfr] {n:Nd} (h:right n=true):n.2.1.data.toList.length≤8:=by
 unfold right at h;split at h
 ·simp only [Bool.and_eq_true,decide_eq_true_eq,qmx] at h;have:=h.1.2.1;rw [Array.length_toList];exact this
 ·split at h
  ·simp only [Bool.and_eq_true,decide_eq_true_eq] at h;rw [h.1];decide
  ·simp only [Bool.and_eq_true,decide_eq_true_eq] at h;rw [h.2.1];decide
theorem xbl [Dfr] {n:Nd} (h:right n=true):(keyN n).length≤14:=by have h1:=ygm (i:=n.1.toNat);have h2:=ygm (i:=n.2.2.toNat);have h3:=ymb h;unfold keyN;simp only [List.length_append,List.length_cons,List.length_nil];omega
theorem ymk [Dfr]:∀{l:List Nd},(∀n∈l,right n=true)→(keyL l).length≤l.length*14
 |[],_=>Nat.le_refl _
 |n::l,h=>by
  have h1:=xbl (h n (List.mem_cons_self ..));have h2:=ymk fun m hm=>h m (List.mem_cons_of_mem _ hm)
  have e:keyL (n::l)=keyN n++keyL l:=List.flatMap_cons;rw [e,List.length_append,List.length_cons];omega
theorem xhr [Dfr] {base B:Nat} {w:World} {v:Value} {l:List UInt8} {cs:Array Value} (h:OwnB base w v l) (hB:w.heap[B]? =some (.cells cs 68 (0,0))):¬v.ownBlock=some B:=fun hg=>by obtain ⟨_,cur,hc⟩:=qjt h hg;rw [hB] at hc;injection hc with hc;injection hc with _ hc;cases hc
theorem ycb [Dfr] {base B:Nat} {w w':World} {v:Value} {l:List UInt8} {cs:Array Value} (h:OwnB base w v l) (hB:w.heap[B]? =some (.cells cs 68 (0,0))) (hk:Kept (fun b=>v.ownBlock=some b) w w'):w'.heap[B]? =some (.cells cs 68 (0,0)):=
 (hk.block B (Array.getElem?_eq_some_iff.1 hB).1 (xhr h hB)).trans hB
theorem qrc [Dfr] {base:Nat} {w w':World} {v:Value} {l:List UInt8} (h:OwnB base w v l) (hk:Kept (fun _=>False) w w'):OwnB base w' v l:=zgs h hk fun _ _=>id
set_option maxHeartbeats 6400000 in
theorem xjl [Dfr] [zdv]:xkh:=by
 intro n hfn hsz w F v hF hg hc;obtain ⟨s,c,rfl⟩:=zcz hc;have hlen:n.row.length≤200:=by rw [Tm.zac];omega
 have hr:=zjm hfn;go_enter Tryz.func84,Tryz.ntmps84;go_wp2;have hk0:Kept (fun b=>w.heap.size≤b) w (w.alloc (.cells #[] 5)):=zml (zcc w _);have hown0:OwnB w.heap.size (w.alloc (.cells #[] 5)) (.slice (some ⟨w.heap.size,0,none⟩) 0 0) []:=
  ⟨rfl,.inr ⟨w.heap.size,0,#[],rfl,Nat.le_refl _,zjc w _,Nat.le_refl _,by decide,rfl,rfl⟩⟩
 go_loopw [3,9] (fun v3 v9 wr=>∃k:Nat,v9= .int .i64 (k:Int)∧k≤n.row.length∧OwnB w.heap.size wr v3 (keyL (n.row.take k))∧Kept (fun b=>w.heap.size≤b) w wr) (fun _ v9 _=>n.row.length-(intOf v9).toNat)
 case atStart=>exact ⟨0,rfl,Nat.zero_le _,hown0,hk0⟩
 case round=>
  obtain ⟨k,rfl,hk,hown,hkr⟩:=hrel;have hbs:=hkr.size;by_cases hlt:k<n.row.length
  ·obtain ⟨ab,ao,hix,hab,hc0,hc1,hc2⟩:=xks (hc.step ⟨fun b hb hl=>hkr.block b hl (by omega),fun b h=>.inl h⟩) hlt;obtain ⟨nd,hnd⟩:∃nd,n.row[k]=nd:=⟨_,rfl⟩;have hmem:nd∈n.row:=hnd▸List.getElem_mem hlt;obtain ⟨b1,b2,b3,b4,b5⟩:=qek (hr nd hmem);have hdrop:n.row.take (k+1)=n.row.take k++[nd]:=by rw [List.take_add_one,List.getElem?_eq_getElem hlt,hnd];rfl
   rw [hnd] at hc0 hc1 hc2;obtain ⟨kd,nm,sg⟩:=nd;obtain ⟨i,rfl⟩:∃i:Nat,kd=i:=⟨kd.toNat,by simp only at b1;omega⟩;obtain ⟨j,rfl⟩:∃j:Nat,sg=j:=⟨sg.toNat,by simp only at b3;omega⟩;simp only at hc0 hc1 hc2 b2 b4;have hkl:(keyL (n.row.take k)).length≤100000:=by
    have h1:=ymk (l:=n.row.take k) fun m hm=>hr m (List.mem_of_mem_take hm)
    have h2:(n.row.take k).length≤n.row.length:=by rw [List.length_take];omega
    exact Nat.le_trans h1 (by omega)
   have hnm:=ymb (hr _ hmem);have hd1:=ygm (i:=i);have hd2:=ygm (i:=j);simp only at hnm;obtain ⟨K,hK⟩:∃K,keyL (n.row.take k)=K:=⟨_,rfl⟩;rw [hK] at hown hkl;have hL1:(K++dg i).length+nm.data.toList.length≤1000000:=by simp only [List.length_append];omega
   have hL2:(K++dg i++nm.data.toList).length+1≤1000000:=by simp only [List.length_append];omega
   have hL3:(K++dg i++nm.data.toList++[58]).length≤900000:=by simp only [List.length_append,List.length_cons,List.length_nil];omega
   have hL4:(K++dg i++nm.data.toList++[58]++dg j).length+1≤1000000:=by simp only [List.length_append,List.length_cons,List.length_nil];omega
   go_wp2_with (go_at_fn 141);obtain ⟨WB,hWB⟩:∃WB,wr.alloc (Obj.cells #[Value.int IntKind.i64 i,Value.string nm,Value.int IntKind.i64 j] 68)=WB:=⟨_,rfl⟩;have kB:Kept (fun _=>False) wr WB:=hWB▸zcc wr _;have hBx:WB.heap[wr.heap.size]? =some (.cells #[.int .i64 i,.string nm,.int .i64 j] 68 (0,0)):=by rw [←hWB];exact zjc wr _
   have hownB:=qrc hown kB;rw [hWB];clear hWB hix hc0 hc1 hc2;have kkB:Kept (fun b=>w.heap.size≤b) w WB:=hkr.trans kB fun _ h=>h.elim
   refine (appI i (by omega) WB w.heap.size u3 _ kkB.size hownB (by omega)).mono ?_;rintro e w1 ⟨v1,rfl,hown1,hk1⟩;have hB1:=ycb hownB hBx hk1;have kk1:Kept (fun b=>w.heap.size≤b) w w1:=kkB.trans hk1 fun x h=>.inl (qjt hownB h).1
   have c1:w1.cell? ⟨wr.heap.size,1,none⟩=some (.string nm):=by rw [cell_of_block hB1];rfl
   clear hBx hownB hk1;go_wp2_with (first
    |(at_builtin;go_loud (refine yrg rfl _ _ rfl w.heap.size v1 _ nm rfl rfl hown1 kk1.size hL1 ?_);intro v2 w2 hown2 hk2;have hB2:=ycb hown1 hB1 hk2;have kk2:Kept (fun b=>w.heap.size≤b) w w2:=kk1.trans hk2 fun x h=>.inl (qjt hown1 h).1;clear hB1 hown1 hk2 c1)
    |(at_builtin;have kb:=zcc w2 (Obj.cells #[Value.int IntKind.u8 58] 5);have kkb:Kept (fun b=>w.heap.size≤b) w (w2.alloc (Obj.cells #[Value.int IntKind.u8 58] 5)):=kk2.trans kb (fun _ h=>h.elim);have hown3:=qrc hown2 kb;have hB3:=(kb.block _ (Array.getElem?_eq_some_iff.1 hB2).1 id).trans hB2;have hsz3:=kkb.size;have hbx:=yuq w2 58 58 rfl;go_loud (refine yup rfl _ _ rfl w.heap.size v2 (K++dg i++nm.data.toList) 58 ⟨w2.heap.size,0,none⟩ 1 rfl rfl hbx hown3 hsz3 hL2 ?_);intro v4 w4 hown4 hk4;have hB4:=ycb hown3 hB3 hk4;have kk4:Kept (fun b=>w.heap.size≤b) w w4:=kkb.trans hk4 (fun x h=>.inl (qjt hown3 h).1);have c2:w4.cell? ⟨wr.heap.size,2,none⟩=some (.int .i64 j):=(by rw [cell_of_block hB4];rfl);clear hB2 hB3 hown2 hown3 hk4 hbx kb))
   refine (appI j (by omega) w4 w.heap.size v4 _ kk4.size hown4 hL3).mono ?_;rintro e w5 ⟨v5,rfl,hown5,hk5⟩;have kk5:Kept (fun b=>w.heap.size≤b) w w5:=kk4.trans hk5 fun x h=>.inl (qjt hown4 h).1
   go_wp2_with (at_builtin;have kb:=zcc w5 (Obj.cells #[Value.int IntKind.u8 32] 5);have kkb:Kept (fun b=>w.heap.size≤b) w (w5.alloc (Obj.cells #[Value.int IntKind.u8 32] 5)):=kk5.trans kb (fun _ h=>h.elim);have hown6:=qrc hown5 kb;have hsz3:=kkb.size;have hbx:=yuq w5 32 32 rfl;go_loud (refine yup rfl _ _ rfl w.heap.size v5 (K++dg i++nm.data.toList++[58]++dg j) 32 ⟨w5.heap.size,0,none⟩ 1 rfl rfl hbx hown6 hsz3 hL4 ?_);intro v7 w7 hown7 hk7;have kk7:Kept (fun b=>w.heap.size≤b) w w7:=kkb.trans hk7 (fun x h=>.inl (qjt hown6 h).1));go_wp2;refine ⟨⟨k+1,by go_num,by omega,?_,kk7⟩,by simp [intOf];omega⟩;rw [hdrop];have e1:keyL (n.row.take k++[((i:Int),nm,(j:Int))])=K++dg i++nm.data.toList++[58]++dg j++[32]:=by unfold keyL at hK ⊢;rw [List.flatMap_append,hK,List.flatMap_cons,List.flatMap_nil,List.append_nil];unfold keyN;simp only [Int.toNat_natCast,List.append_assoc,List.cons_append,List.nil_append]
   rw [e1];exact hown7
  ·have hke:k=n.row.length:=by omega
   subst hke;rw [List.take_length] at hown;have hcv:=xcb hown;go_wp2;go_ret;exact ⟨rfl,hkr.yyg fun b h1 h2=>by omega⟩
attribute [local go_sem] Oper.semAt_some
theorem yjx [Dfr] [zdv] [zcd] [zdi] [zji]:∀(c:Nat) (n:Tm),Good n→cntW n.row≤8→cntW n.row<c→xcl n
 |0,_,_,_,h=>absurd h (Nat.not_lt_zero _)
 |c+1,n,hn,h8,hc=>by
  cases ho:n.zjb with
  |true=>cases n<;>first|exact xbw _|cases ho
  |false=>exact xbx xjl hn ho h8 fun n' h1 h2=>yjx c n' h1 (by omega) (by omega)
set_option maxHeartbeats 2000000 in
theorem qdn [Dfr] [zdv] {F:Nat→Prop} {w:World} (hF:∀b,F b→b<w.heap.size):Calls Tryz.prog 49 #[] w fun e w'=>∃kb eb mb,e= .returned (.func (.func 83) #[] #[.pointer (some ⟨kb,0,none⟩),.pointer (some ⟨eb,0,none⟩)])∧Kept (fun _=>False) w w'∧w.heap.size≤mb∧Memo (fun b=>F b∨b=mb) w' kb eb mb:=by
 go_enter Tryz.func49,Tryz.ntmps49;have hmk:=run_makeMap (P:=Tryz.prog) 111 w;have hbx:Boxed (((w.alloc (.map #[] 0)).alloc (.cells #[.map (some w.heap.size)] 111)).alloc (.cells #[.nilFunc] 82)) (w.heap.size+1+1) 82 .nilFunc:=by
  have:=Boxed.new ((w.alloc (.map #[] 0)).alloc (.cells #[.map (some w.heap.size)] 111)) 82 .nilFunc
  rwa [World.size_alloc,World.size_alloc] at this
 have hsf:=fun (a:Addr) (c:Array Value) (w:World)=>run_store Tryz.prog w a (.func (.func 83) #[] c) .plain rfl
 have hb1:=hbx.cell;have hb2:=hbx.frozen;go_wp2_with fail;clear hb1 hb2 hsf hbx hmk;go_ret;obtain ⟨w1,h1⟩:∃w1,w.alloc (Obj.map #[] 0)=w1:=⟨_,rfl⟩;obtain ⟨w2,h2⟩:∃w2,w1.alloc (Obj.cells #[Value.map (some w.heap.size)] 111)=w2:=⟨_,rfl⟩;have s1:w1.heap.size=w.heap.size+1:=by rw [←h1];simp
 have s2:w2.heap.size=w.heap.size+1+1:=by rw [←h2,World.size_alloc,s1]
 have k1:Kept (fun _=>False) w w1:=h1▸zcc w _;have k2:Kept (fun _=>False) w1 w2:=h2▸zcc w1 _;rw [h1,h2];obtain ⟨w3,h3⟩:∃w3,w2.alloc (Obj.cells #[zfr 83 (w.heap.size+1) (w.heap.size+1+1)] 82)=w3:=⟨_,rfl⟩;have k3:Kept (fun _=>False) w2 w3:=h3▸zcc w2 _;have h3':w2.alloc (Obj.cells #[Value.func (Fn.func 83) #[] #[Value.pointer (some {block:=w.heap.size+1,off:=0}),Value.pointer (some {block:=w.heap.size+1+1,off:=0})]] 82)=w3:=h3;rw [h3'];have m1:w1.heap[w.heap.size]? =some (.map #[] 0):=by rw [←h1];exact World.alloc_heap_new w _
 have m2:w2.heap[w.heap.size+1]? =some (.cells #[.map (some w.heap.size)] 111 (0,0)):=by rw [←h2,←s1];exact World.alloc_heap_new w1 _
 have m3:w3.heap[w.heap.size+1+1]? =some (.cells #[zfr 83 (w.heap.size+1) (w.heap.size+1+1)] 82 (0,0)):=by rw [←h3,←s2];exact World.alloc_heap_new w2 _
 refine ⟨w.heap.size+1,w.heap.size+1+1,w.heap.size,rfl,(k1.trans k2 fun _ h=>h.elim).trans k3 fun _ h=>h.elim,Nat.le_refl _,⟨(k3.block _ (by omega) id).trans m2,m3,⟨#[],0,(k3.block _ (by omega) id).trans ((k2.block _ (by omega) id).trans m1),fun x hx=>by simp at hx⟩,fun h=> ?_,fun h=> ?_,.inr rfl⟩⟩
 ·rcases h with h|h
  ·have:=hF _ h;omega
  ·omega
 ·rcases h with h|h
  ·have:=hF _ h;omega
  ·omega
open Go Go.Sv Go.Rd
noncomputable def chkR (l:List Nd):Int:=if on (sOf l)=3 then (if l≠[]∧zbl l=l then (if zse l then 0 else 70) else 1) else 1
theorem zzf [Dfr] (l:List Nd) (hl:l.length≤4611686018427387904):qbn l=some (chkR l):=by
 rw [qzb,ydd l false hl];simp only [Option.bind_some,zks l hl,yfo];unfold chkR;simp only [Bool.false_eq_true,if_false];by_cases h1:on (sOf l)=3
 ·rw [decide_eq_true h1,if_pos h1];simp only [Bool.not_true,cond_false];by_cases h2:l≠[]∧zbl l=l
  ·rw [decide_eq_true h2,if_pos h2];simp only [Bool.not_true,cond_false];by_cases h3:zse l
   ·rw [decide_eq_true h3,if_pos h3];rfl
   ·rw [decide_eq_false h3,if_neg h3];rfl
  ·rw [decide_eq_false h2,if_neg h2];rfl
 ·rw [decide_eq_false h1,if_neg h1];rfl
theorem qgz [Dfr] (l:List Nd) (hl:l.length≤1000000) (hn:∀n∈l,n.2.1.size≤9223372036854775807):zwy l=some (chkR l):=by
 rw [qud,yok l false (by omega) hn];simp only [Option.bind_some,zma l hl hn,yad];unfold chkR;simp only [Bool.false_eq_true,if_false];by_cases h1:on (sOf l)=3
 ·rw [decide_eq_true h1,if_pos h1];simp only [Bool.not_true,cond_false];by_cases h2:l≠[]∧zbl l=l
  ·rw [decide_eq_true h2,if_pos h2];simp only [Bool.not_true,cond_false];by_cases h3:zse l
   ·rw [decide_eq_true h3,if_pos h3];rfl
   ·rw [decide_eq_false h3,if_neg h3];rfl
  ·rw [decide_eq_false h2,if_neg h2];rfl
 ·rw [decide_eq_false h1,if_neg h1];rfl
theorem qch [Dfr] {l:List Nd} (h:chkR l=0):∃n:Tm,l=n.row∧Good n:=by
 unfold chkR at h;split at h
 ·rename_i h1;split at h
  ·rename_i h2;split at h
   ·rename_i h3;obtain ⟨m,e,hf,hz,ho,hst,hso⟩:=qyv h2;subst e;refine ⟨m,rfl,hf,hst,?_,qji.1 h3⟩;rw [Tm.yyv,←hso];exact decide_eq_true h1
   ·cases h
  ·cases h
 ·cases h
theorem qnv [Dfr] {n:Tm} (h:Good n):chkR n.row=0:=by
 have h1:on (sOf n.row)=3:=by rw [yse h.1 (by have:=h.2.2.2.1;omega)];exact of_decide_eq_true ((Tm.yyv n).symm.trans h.2.2.1)
 unfold chkR;have h2:n.row≠[]∧zbl n.row=n.row:=h.set;rw [if_pos h1,if_pos h2,if_pos (qji.2 h.2.2.2)]
theorem zge [Dfr] {n:Tm} (h:Good n):trL n.row=n.tr:=qoo h.1 (by have:=h.2.2.2.1;omega)
noncomputable def allR (l:List Nd):List Tc×Int:=if chkR l=0 then (trL l,0) else ([],chkR l)
noncomputable def zya (l:List Nd):Option (List Tc×Int):=if l.length≤1000000∧cntW l≤8 then some (allR l) else none
class qmm [Dfr]:Prop where
 all:∀l,zpv l=zya l
attribute [local go_sem] Oper.semAt_some
set_option maxHeartbeats 3200000 in
theorem ywt [Dfr] [zdv] [zcd] [zdi] [zji] {F:Nat→Prop} {w:World} {v:Value} {l:List Nd} (hF:∀b,F b→b<w.heap.size) (hg:zdp E F w) (hc:Cl F w (.slice 68 NdY) l [v]) (hl:l.length≤1000000) (h8:cntW l≤8):
 Calls Tryz.prog 20 #[v] w fun e w'=>∃u,e= .returned (.tuple #[u,.int .i64 (allR l).2])∧Kept (fun _=>False) w w'∧Cl F w' (.slice 33 TcY) (allR l).1 [u]:=by
 have hchk:=qfp (zzf l (by omega)) hF hg hc;obtain ⟨z,hz⟩:∃z,chkR l=z:=⟨_,rfl⟩;rw [hz] at hchk;unfold allR;rw [hz];by_cases h0:z=0
 ·subst h0;obtain ⟨n,rfl,hn⟩:=qch hz;rw [if_pos rfl,zge hn];go_enter Tryz.func20,Tryz.ntmps20;go_wp2_with (go_at_fn 47);refine hchk.mono ?_;rintro e w1 ⟨rfl,hk1⟩;have s1:Step F F w w1:=zbf hk1 fun _ h=>h.elim
  have hF1:∀b,F b→b<w1.heap.size:=fun b hb=>Nat.lt_of_lt_of_le (hF b hb) hk1.size
  go_wp2_with (go_at_fn 49);refine (qdn hF1).mono ?_;rintro e w2 ⟨kb,eb,mb,rfl,hk2,hmb,hm2⟩;have s2:Step F (fun b=>F b∨b=mb) w w2:=⟨fun b hb hlt=>(hk2.block b (Nat.lt_of_lt_of_le hlt hk1.size) id).trans (hk1.block b hlt id),fun b hb=>hb.imp id fun e=>by have:=hk1.size;omega⟩;have hF2:∀b,(F b∨b=mb)→b<w2.heap.size:=fun b hb=>by
   rcases hb with hb|rfl
   ·exact Nat.lt_of_lt_of_le (hF1 b hb) hk2.size
   ·exact hm2.lt.2.2
  have hexp:=yjx (cntW n.row+1) n hn h8 (Nat.lt_succ_self _) w2 (fun b=>F b∨b=mb) v kb eb mb hF2 (hg.step s2) (hc.step s2) hm2;go_wp2_with (go_at_fn 83);refine hexp.mono ?_;rintro e w3 ⟨s,c,rfl,hk3,hm3,hc3⟩;have hk03:Kept (fun _=>False) w w3:=(hk1.trans hk2 fun _ h=>h.elim).trans hk3 fun x h=>.inr (by have:=hk1.size;omega)
  have s3:Step (fun b=>F b∨b=mb) (fun b=>F b∨b=mb) w2 w3:=zbf hk3 fun b h=>.inr h
  have hF3:∀b,(F b∨b=mb)→b<w3.heap.size:=fun b hb=>Nat.lt_of_lt_of_le (hF2 b hb) hk3.size
  have hsh:zgq n.tr:=fewT.short fun x hx=>Nat.le_trans (zbm hn.2.2.2 x hx) (by decide)
  have hlen:=qon hn h8;have hset:zum n.tr=some n.tr:=by rw [qoi _ (by omega) hsh,ygs ordT (Tm.yls n)]
  go_wp2_with (go_at_fn 48);refine (ydh hset hF3 ((hg.step s2).step s3) hc3).mono ?_;rintro e w4 ⟨s',c',rfl,hk4,hc4⟩;go_wp2;go_ret2;exact ⟨_,rfl,hk03.trans hk4 fun _ h=>h.elim,Cl.lift (fun b hb=>.inl hb) hc4⟩
 ·rw [if_neg h0];go_enter Tryz.func20,Tryz.ntmps20;go_wp2_with (go_at_fn 47);refine hchk.mono ?_;rintro e w1 ⟨rfl,hk1⟩;go_wp2;go_ret2;refine ⟨_,rfl,hk1,?_⟩;rw [Cl];exact ⟨none,0,rfl,Nat.le_refl _,.inl rfl⟩
theorem ygx [Dfr] [zdv] [zcd] [zdi] [zji] (l:List Nd) (r:List Tc×Int) (h:zya l=some r):zco Tryz.prog E 20 l r:=by
 unfold zya at h;split at h
 ·rename_i hc;cases h;intro w F0 G A vs hA;obtain ⟨v0,rfl,h0⟩:∃v0,vs=[v0]∧Cl (A.F F0) w (.slice 68 NdY) l [v0]:=by
   have hr:=hA.rel;cases hr with
   |cons a hr=>cases hr;exact ⟨_,rfl,a⟩
  have hF:∀b,A.F F0 b→b<w.heap.size:=fun b hb=>by
   rcases hb with hb|⟨d,hb⟩|⟨n,l,hb⟩
   ·exact (hA.f0 b hb).1
   ·rw [hA.bx] at hb;cases hb
   ·exact (hA.tgm n b l hb).2
  refine (ywt hF hA.glob h0 hc.1 hc.2).mono ?_;rintro e w' ⟨u,rfl,hk,hu⟩;refine ⟨_,rfl,zml hk,fun d=>⟨⟨fun _=>none,fun _=>none⟩,?_,fun _=>rfl,fun n b l h=>(by cases h),fun n n' b l l' h h'=>(by cases h)⟩⟩;have hu':Cl (Fr.F ⟨fun _=>none,fun _=>none⟩ F0) w' (.slice 33 TcY) (allR l).1 [u]:=Cl.lift (fun b hb=>by
   rcases hb with hb|⟨d',hb⟩|⟨n,l',hb⟩
   ·exact .inl hb
   ·cases hb
   ·cases hb) hu
  exact ⟨[u,.int .i64 (allR l).2],rfl,.cons hu' (.cons rfl .nil)⟩
 ·cases h
end Go.Proofs.YtjolkdjkhekbnaaGreatDoor.Sv
