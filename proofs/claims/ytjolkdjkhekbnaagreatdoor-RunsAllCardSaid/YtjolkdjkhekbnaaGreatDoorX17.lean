/- step.Put: its contract, by hand. -/
import Derived.Deep.RegionHeld3
import Derived.Test.YtjolkdjkhekbnaaGreatDoorL10
set_option linter.unusedVariables false
set_option linter.unusedSimpArgs false
namespace Go.Proofs.YtjolkdjkhekbnaaGreatDoor.Sv
open Go Go.Sv Go.Proofs Go.Rd Go.RowKit
set_option maxRecDepth 100000
attribute [local go_sem] Oper.semAt_some
structure Els (F:Nat→Prop) (w:World) (t:Ty) (ys:List t.den) (news:List Value):Prop where
 len:news.length=ys.length*t.sz
 one:∀v∈news,v.oneCell'=true
 el:∀i x,ys[i]? =some x→∃ds,Cl F w t x ds∧∀j z,ds[j]? =some z→news[i*t.sz+j]? =some z
theorem qcg [Dfr] {P:Program} {dT sT ty e:TypeId} {t:Ty} {w:World} {F:Nat→Prop} {ys:List t.den} {v:Value} (hu:P.underlying dT=some (.slice e)) (hs:(P.info? e).map (·.size)=some t.sz) (hv:Cl F w (.slice e t) ys [v]):
 ∃news,Els F w t ys news∧∀(W:World),(∀b,b<w.heap.size→W.heap[b]? =w.heap[b]?)→∀(g o dLen dCap tid:Nat) (cur:Array Value),W.heap[g]? =some (.cells cur tid (0,0))→ys.length≤dLen→o+ys.length*t.sz≤cur.size→
  (Builtin.copy_ #[dT,sT] ty #[.slice (some ⟨g,o,none⟩) dLen dCap,v]).run P W= .ok (goInt ys.length) (W.setRow g (cur.toList.take o++news++cur.toList.drop (o+news.length)).toArray):=by
 rw [Cl] at hv;obtain ⟨A,c,hvv,hc,hrow⟩:=hv;obtain rfl:v= .slice A ys.length c:=by simpa using hvv
 cases hq:P.info? e with
 |none=>simp [hq] at hs
 |some i=>
  have hi:i.size=t.sz:=by simpa [hq] using hs
  rcases hrow with rfl|⟨a,rfl,hF,hrow⟩
  ·refine ⟨[],⟨by simp,fun v h=>(by cases h),fun i x h=>(by cases h)⟩,fun W hW g o dLen dCap tid cur hg hle hfit=> ?_⟩;have hst:=run_storeCells_at P g o tid [] 0 cur W hg (by simpa using hfit) (fun v h=>by cases h);have hl0:∀a:Addr,(loadCells a 0).run P W= .ok #[] W:=fun a=>by
    have:=run_loadCells_list (P:=P) W a [] (fun j v h=>by simp at h)
    simpa using this
   cases A with
   |none=>simp [Builtin.copy_,run_underlying hu,Builtin.lenOf,Builtin.firstCells,sizeOf,typeInfo,hq,hi,hst]
   |some a=>simp [Builtin.copy_,run_underlying hu,Builtin.lenOf,Builtin.firstCells,sizeOf,typeInfo,hq,hi,hst,hl0]
  ·obtain ⟨news,hn⟩:=yrm hrow;refine ⟨news,⟨hn.len,hn.one,hn.el⟩,fun W hW g o dLen dCap tid cur hg hle hfit=> ?_⟩;have hmin:Nat.min ys.length dLen=ys.length:=Nat.min_eq_left hle;have hl:=run_loadCells_list (P:=P) W a news (fun j v hj=>by have h1:=hn.cell j v hj;have h2:=World.block_lt_of_cell? w _ h1;rw [←h1];exact World.cell?_of_block (hW _ h2));rw [hn.len] at hl;have hst:=run_storeCells_at P g o tid news 0 cur W hg (by rw [hn.len];simpa using hfit) hn.one;simp [Builtin.copy_,run_underlying hu,Builtin.lenOf,Builtin.firstCells,sizeOf,typeInfo,hq,hi,hmin,hl,hst]
abbrev NdY:Ty:=.pair (.int .i64) (.pair .str (.int .i64))
abbrev rowT:Nat:=22
theorem ybs [Dfr] [zdv] {F:Nat→Prop} {w:World} {xs:List Nd} {A:Option Addr} {cap:Nat} {lo hi:Option Value} {l h:Int} (hv:Cl F w (.slice 68 NdY) xs [.slice A xs.length cap])
 (hl:ylc lo l 0) (hh:ylc hi h xs.length) (h0:0≤l) (h1:l≤h) (h2:h≤(xs.length:Int)):
 ∃v,(∀W,(Instr.sliceAt rowT (.slice A xs.length cap) lo hi none).run Tryz.prog W= .ok v W)∧Cl F w (.slice 68 NdY) (cut xs l h) [v]:=by
 have hc:xs.length≤cap:=by have:=hv;rw [Cl] at this;obtain ⟨a,c,e,hc,_⟩:=this;simp only [List.cons.injEq,Value.slice.injEq,and_true,true_and] at e;omega
 have ht:=tab.types.ti rowT _ rfl;obtain ⟨ie,hie,hsz,_⟩:=(tab.types.ti 68 _ rfl).info;obtain ⟨M,hr,hM,hM2⟩:=zzc ht rfl hie A hl hh (.inl rfl) h0 h1 h2 hc w;have hMc:M=cap:=by
  rcases hM2 with ⟨_,h⟩|⟨h,_⟩
  ·exact h
  ·exact absurd rfl h
 refine ⟨_,fun W=> ?_,Cl.cut (by simp [zaw];omega) hv hM⟩;obtain ⟨M',hr',_,hM2'⟩:=zzc ht rfl hie A hl hh (.inl rfl) h0 h1 h2 hc W;have hMc':M'=cap:=by
  rcases hM2' with ⟨_,h⟩|⟨h,_⟩
  ·exact h
  ·exact absurd rfl h
 rw [hr',hMc',←hMc,hsz];rfl
theorem yvz [Dfr] [zdv] (g T k:Nat) (hk:k≤T) (W:World):(Instr.sliceAt rowT (.slice (some ⟨g,0,none⟩) T T) (some (.int .i64 (k:Int))) none none).run Tryz.prog W= .ok (.slice (if T=k then some ⟨g,0,none⟩ else some ⟨g,k*3,none⟩) (T-k) (T-k)) W:=by
 have ht:=tab.types.ti rowT _ rfl;obtain ⟨ie,hie,hsz,_⟩:=(tab.types.ti 68 _ rfl).info;obtain ⟨M,hr,hM,hM2⟩:=zzc ht rfl hie (some ⟨g,0,none⟩) (lo:=some (.int .i64 (k:Int))) (hi:=none) (mx:=none) (l:=(k:Int)) (h:=(T:Int)) (len:=T) (cap:=T) (.inr ⟨_,rfl⟩) (.inl ⟨rfl,rfl⟩) (.inl rfl) (by omega) (by omega) (by omega) (Nat.le_refl _) W;have hMc:M=T:=by
  rcases hM2 with ⟨_,h⟩|⟨h,_⟩
  ·exact h
  ·exact absurd rfl h
 subst hMc;rw [hr,hsz];simp only [Int.toNat_natCast,Option.map_some]
 congr 3
 rw [zhj,Nat.zero_add]
theorem ygp [Dfr] {P:Program} {dT sT ty g T k tid:Nat} {W:World} {cur:Array Value} {n:Nat} {v:Value} {news:List Value} (hg:W.heap[g]? =some (.cells cur tid (0,0))) (hc:cur.size=T*3) (hn:news.length=n*3) (hk:k≤T) (hle:n≤T-k)
 (h:∀(o dLen dCap tid:Nat) (cur:Array Value),W.heap[g]? =some (.cells cur tid (0,0))→n≤dLen→o+n*3≤cur.size→
  (Builtin.copy_ #[dT,sT] ty #[.slice (some ⟨g,o,none⟩) dLen dCap,v]).run P W= .ok (goInt n) (W.setRow g (cur.toList.take o++news++cur.toList.drop (o+news.length)).toArray)):
 (Builtin.copy_ #[dT,sT] ty #[.slice (if T=k then some ⟨g,0,none⟩ else some ⟨g,k*3,none⟩) (T-k) (T-k),v]).run P W= .ok (goInt n) (W.setRow g (cur.toList.take (k*3)++news++cur.toList.drop (k*3+news.length)).toArray):=by
 by_cases e:T=k
 ·rw [if_pos e];have h0:n=0:=by omega
  subst h0;have hnil:news=[]:=List.eq_nil_of_length_eq_zero (by omega);subst hnil;rw [h 0 _ _ tid cur hg (Nat.zero_le _) (by omega)];simp
 ·rw [if_neg e];exact h (k*3) _ _ tid cur hg hle (by omega)
theorem three [Dfr] {α:Type} (Z a b c:List α) (h:Z.length=a.length+b.length+c.length):
 let L1:=Z.take 0++a++Z.drop (0+a.length)
 let L2:=L1.take a.length++b++L1.drop (a.length+b.length)
 L2.take (a.length+b.length)++c++L2.drop (a.length+b.length+c.length)=a++b++c:=by
 intro L1 L2;have h1:L1=a++Z.drop a.length:=by simp [L1]
 have h2:L2=a++b++Z.drop (a.length+b.length):=by simp only [L2,h1];rw [List.take_left' rfl,←List.drop_drop,List.drop_left' rfl,List.drop_drop]
 rw [h2,List.take_left' (by simp),List.drop_eq_nil_of_le (by simp;omega),List.append_nil]
theorem qvw [Dfr] [zdv] {l:List Nd} {r:Int} (h:zly l=some r) {W:World} {F:Nat→Prop} {v:Value} (hF:∀b,F b→b<W.heap.size) (hg:zdp E F W) (hc:Cl F W (.slice 68 NdY) l [v]):
 Calls Tryz.prog 128 #[v] W fun e w'=>e= .returned (.int .i64 r)∧Kept (fun _=>False) W w':=by
 obtain ⟨q,hq⟩:=((ydp l).iff _).1 h;obtain ⟨hf,hct⟩:=zog yge q 128 l r hq;have hFr:∀b,Fr.F ⟨fun _=>none,fun _=>none⟩ F b→F b:=fun b h=>by
  rcases h with h|⟨d,h⟩|⟨n,l,h⟩
  ·exact h
  ·cases h
  ·cases h
 have hst:Step F (Fr.F ⟨fun _=>none,fun _=>none⟩ F) W W:=⟨fun _ _ _=>rfl,fun b h=>.inl (hFr b h)⟩;refine (hct W F (fun _=>False) ⟨fun _=>none,fun _=>none⟩ [v] ⟨.cons (Cl.step hst hc) .nil,fun _=>rfl,fun n b l h=>(by cases h),fun n n' b l l' h=>(by cases h),fun b h=>⟨hF b h,fun h=>h⟩,hg.step hst⟩).mono ?_;rintro e w' ⟨v,rfl,hk,hr⟩;obtain ⟨T,hT⟩:=hr 0;have hv:v= .int .i64 r:=hT.rel;exact ⟨by rw [hv],hk⟩
theorem qns [Dfr] [zdv] (n:Nat) (hn:n≤5000000):∃Z:Array Value,Z.size=n*3∧∀W:World,(Instr.makeSlice rowT (.int .i64 (n:Int)) (.int .i64 (n:Int))).run Tryz.prog W= .ok (.slice (some ⟨W.heap.size,0,none⟩) n n) (W.alloc (.cells Z 68)):=by obtain ⟨ie,hie,hsz,hb,z,hz,hzs,_⟩:=(tab.types.ti 68 _ rfl).info;refine ⟨madeCells z.cells (n*3),by simp [madeCells],fun W=> ?_⟩;have h:=run_makeSlice W (P:=Tryz.prog) rowT 68 ie z Tryz.underlying22 hie hz .i64 .i64 (n:Int) (n:Int) (by omega) (Int.le_refl _) (by rw [hsz];show (n:Int).toNat*3≤_;omega) (by rw [hb];show ((32:Nat):Int)*(n:Int)≤_;omega) (by omega);rw [hsz] at h;exact h
theorem Els.append [Dfr] {F:Nat→Prop} {w:World} {t:Ty} {xs ys:List t.den} {a b:List Value} (ha:Els F w t xs a) (hb:Els F w t ys b):Els F w t (xs++ys) (a++b):=by
 refine ⟨by rw [List.length_append,List.length_append,ha.len,hb.len,Nat.add_mul],fun v hv=> ?_,fun i x hi=> ?_⟩
 ·rcases List.mem_append.1 hv with h|h
  ·exact ha.one v h
  ·exact hb.one v h
 ·rw [List.getElem?_append] at hi;split at hi
  ·rename_i hlt;obtain ⟨ds,h1,h2⟩:=ha.el i x hi;refine ⟨ds,h1,fun j z hj=> ?_⟩;have:=h2 j z hj;have hl:=(List.getElem?_eq_some_iff.1 this).1;rw [List.getElem?_append_left hl];exact this
  ·rename_i hge;obtain ⟨ds,h1,h2⟩:=hb.el _ x hi;refine ⟨ds,h1,fun j z hj=> ?_⟩;have:=h2 j z hj;have hm:xs.length*t.sz≤i*t.sz:=Nat.mul_le_mul_right _ (by omega);rw [List.getElem?_append_right (by rw [ha.len];omega),ha.len,←this]
   congr 1
   rw [Nat.sub_mul];omega
def ygz (F:Nat→Prop) (w:World) (out:List Nd) (e:Ending) (w':World):Prop:=
 ∃g,∃cur:Array Value,e= .returned (.slice (some ⟨g,0,none⟩) out.length out.length)∧Kept (fun _=>False) w w'∧w.heap.size≤g∧w'.heap[g]? =some (.cells cur 68 (0,0))∧Els F w NdY out cur.toList
attribute [local go_sem] Oper.semAt_some
set_option maxHeartbeats 3200000 in
theorem yom [Dfr] [zdv] (w:World) (F:Nat→Prop) (l x:List Nd) (s0 s2:Option Addr) (c0 c2 k n:Nat) (hF:∀b,F b→b<w.heap.size) (hg:zdp E F w)
 (hl:Cl F w (.slice 68 NdY) l [.slice s0 l.length c0]) (hx:Cl F w (.slice 68 NdY) x [.slice s2 x.length c2]) (hk:k<l.length) (hn:zly (l.drop k)=some (n:Int)) (hn1:0<n) (hn2:k+n≤l.length) (hll:l.length≤1000000) (hxl:x.length≤1000000):
 Calls Tryz.prog 72 #[.slice s0 l.length c0,.int .i64 (k:Int),.slice s2 x.length c2] w (ygz F w (l.take k++x++l.drop (k+n))):=by
 have h0:(0:Int)≤(k:Int):=by omega
 have h1:(k:Int)<(l.length:Int):=by omega
 have hs:(Tryz.prog.info? 68).map (·.size)=some NdY.sz:=by kernel_rfl
 obtain ⟨vA,hA,clA⟩:=ybs hl (lo:=some (.int .i64 (k:Int))) (hi:=none) (l:=(k:Int)) (h:=(l.length:Int)) (.inr ⟨_,rfl⟩) (.inl ⟨rfl,rfl⟩) h0 (by omega) (Int.le_refl _);obtain ⟨vB,hB,clB⟩:=ybs hl (lo:=none) (hi:=some (.int .i64 (k:Int))) (l:=0) (h:=(k:Int)) (.inl ⟨rfl,rfl⟩) (.inr ⟨_,rfl⟩) (Int.le_refl _) h0 (by omega);obtain ⟨vC,hC,clC⟩:=ybs hl (lo:=some (.int .i64 ((k:Int)+(n:Int)))) (hi:=none) (l:=(k:Int)+(n:Int)) (h:=(l.length:Int)) (.inr ⟨_,rfl⟩) (.inl ⟨rfl,rfl⟩) (by omega) (by omega) (Int.le_refl _);have eA:cut l (k:Int) (l.length:Int)=l.drop k:=by rw [zpg];simp
 have eB:cut l 0 (k:Int)=l.take k:=by rw [show (0:Int)=((0:Nat):Int) from rfl,zpg];simp
 have eC:cut l ((k:Int)+(n:Int)) (l.length:Int)=l.drop (k+n):=by rw [←Int.natCast_add,zpg];simp
 rw [eA] at clA;rw [eB] at clB;rw [eC] at clC;obtain ⟨Z,hZ,hmk⟩:=qns (l.length-n+x.length) (by omega);have e2:((l.length-n+x.length:Nat):Int)=((l.length-n:Nat):Int)+(x.length:Int):=by omega
 rw [e2] at hmk;obtain ⟨nB,EB,hcB⟩:=qcg (P:=Tryz.prog) (dT:=rowT) (sT:=rowT) (ty:=3) Tryz.underlying22 hs clB;obtain ⟨nX,EX,hcX⟩:=qcg (P:=Tryz.prog) (dT:=rowT) (sT:=rowT) (ty:=3) Tryz.underlying22 hs hx;obtain ⟨nC,EC,hcC⟩:=qcg (P:=Tryz.prog) (dT:=rowT) (sT:=rowT) (ty:=3) Tryz.underlying22 hs clC;have w1:IntKind.i64.wrap ((l.length:Int)-(n:Int))=((l.length-n:Nat):Int):=by rw [show ((l.length:Int)-(n:Int))=((l.length-n:Nat):Int) by omega];exact qfz (by omega)
 have w2:IntKind.i64.wrap (((l.length-n:Nat):Int)+(x.length:Int))=((l.length-n:Nat):Int)+(x.length:Int):=by rw [←e2];exact qfz (by omega)
 have w3:IntKind.i64.wrap ((k:Int)+(x.length:Int))=(k:Int)+(x.length:Int):=by rw [←Int.natCast_add];exact qfz (by omega)
 have w4:IntKind.i64.wrap ((k:Int)+(n:Int))=(k:Int)+(n:Int):=by rw [←Int.natCast_add];exact qfz (by omega)
 have hnz:¬(n:Int)=0:=by omega
 go_enter Tryz.func72,Tryz.ntmps72;go_wp2_with (go_at_fn 128);refine (qvw hn hF hg clA).mono ?_;rintro e W ⟨rfl,hkept⟩;obtain ⟨vO,hvO,hmO⟩:∃vO,Value.slice (some ⟨W.heap.size,0,none⟩) (l.length-n+x.length) (l.length-n+x.length)=vO∧
  (Instr.makeSlice rowT (.int .i64 (((l.length-n:Nat):Int)+(x.length:Int))) (.int .i64 (((l.length-n:Nat):Int)+(x.length:Int)))).run Tryz.prog W= .ok vO (W.alloc (.cells Z 68)):=⟨_,rfl,hmk W⟩
 clear hmk;obtain ⟨d1,hd1,hD1⟩:∃d1,Value.slice (if l.length-n+x.length=k then some ⟨W.heap.size,0,none⟩ else some ⟨W.heap.size,k*3,none⟩) (l.length-n+x.length-k) (l.length-n+x.length-k)=d1∧
  ∀W',(Instr.sliceAt rowT vO (some (.int .i64 (k:Int))) none none).run Tryz.prog W'= .ok d1 W':=⟨_,rfl,fun W'=>by rw [←hvO];exact yvz _ _ _ (by omega) W'⟩
 obtain ⟨d2,hd2,hD2⟩:∃d2,Value.slice (if l.length-n+x.length=k+x.length then some ⟨W.heap.size,0,none⟩ else some ⟨W.heap.size,(k+x.length)*3,none⟩) (l.length-n+x.length-(k+x.length)) (l.length-n+x.length-(k+x.length))=d2∧
  ∀W',(Instr.sliceAt rowT vO (some (.int .i64 ((k:Int)+(x.length:Int)))) none none).run Tryz.prog W'= .ok d2 W':=⟨_,rfl,fun W'=>by rw [←hvO,←Int.natCast_add];exact yvz _ _ _ (by omega) W'⟩
 have lB:nB.length=k*3:=by rw [EB.len,List.length_take,Nat.min_eq_left (by omega)];rfl
 have lX:nX.length=x.length*3:=EX.len;have lC:nC.length=(l.length-(k+n))*3:=by rw [EC.len,List.length_drop];rfl
 have tB:(l.take k).length=k:=by rw [List.length_take,Nat.min_eq_left (by omega)]
 have tC:(l.drop (k+n)).length=l.length-(k+n):=List.length_drop;go_wp2;generalize hW1:W.alloc (.cells Z 68)=W1;have k1:Kept (fun _=>False) w W1:=by rw [←hW1];exact hkept.alloc _
 have g1:W1.heap[W.heap.size]? =some (.cells Z 68 (0,0)):=by rw [←hW1];simp [-World.alloc_eq,World.alloc]
 have hC1:(Builtin.copy_ #[rowT,rowT] 3 #[vO,vB]).run Tryz.prog W1= .ok (goInt (l.take k).length) (W1.setRow W.heap.size (Z.toList.take 0++nB++Z.toList.drop (0+nB.length)).toArray):=by rw [←hvO];exact hcB W1 (fun b hb=>k1.block b hb (fun h=>h)) W.heap.size 0 _ _ _ Z g1 (by rw [tB];omega) (by rw [tB,hZ];show 0+k*3≤_;omega)
 rw [hC1];generalize hW2:W1.setRow W.heap.size _=W2;have k2:Kept (fun _=>False) w W2:=by rw [←hW2];exact k1.setRow (.inl hkept.size) _
 have g2:W2.heap[W.heap.size]? =some (.cells (Z.toList.take 0++nB++Z.toList.drop (0+nB.length)).toArray 68 (0,0)):=by rw [←hW2];exact setRow_heap W1 W.heap.size Z _ 68 _ g1
 go_wp2;generalize hY1:(Z.toList.take 0++nB++Z.toList.drop (0+nB.length)).toArray=Y1 at*;have z1:Y1.size=(l.length-n+x.length)*3:=by rw [←hY1];simp [lB];omega
 have hC2:(Builtin.copy_ #[rowT,rowT] 3 #[d1,.slice s2 x.length c2]).run Tryz.prog W2= .ok (goInt x.length) (W2.setRow W.heap.size (Y1.toList.take (k*3)++nX++Y1.toList.drop (k*3+nX.length)).toArray):=by rw [←hd1];exact ygp g2 z1 lX (by omega) (by omega) fun o dLen dCap tid cur hc hle hfit=>hcX W2 (fun b hb=>k2.block b hb (fun h=>h)) W.heap.size o dLen dCap tid cur hc hle hfit
 rw [hC2];generalize hW3:W2.setRow W.heap.size _=W3;have k3:Kept (fun _=>False) w W3:=by rw [←hW3];exact k2.setRow (.inl hkept.size) _
 have g3:W3.heap[W.heap.size]? =some (.cells (Y1.toList.take (k*3)++nX++Y1.toList.drop (k*3+nX.length)).toArray 68 (0,0)):=by rw [←hW3];exact setRow_heap W2 W.heap.size Y1 _ 68 _ g2
 generalize hY2:(Y1.toList.take (k*3)++nX++Y1.toList.drop (k*3+nX.length)).toArray=Y2 at*;have z2:Y2.size=(l.length-n+x.length)*3:=by rw [←hY2];simp [lX,z1];omega
 have hC3:∀W':World,W'.heap=W3.heap→(Builtin.copy_ #[rowT,rowT] 3 #[d2,vC]).run Tryz.prog W'= .ok (goInt (l.drop (k+n)).length) (W'.setRow W.heap.size (Y2.toList.take ((k+x.length)*3)++nC++Y2.toList.drop ((k+x.length)*3+nC.length)).toArray):=fun W' hW'=>by rw [←hd2];exact ygp (by rw [hW'];exact g3) z2 EC.len (by omega) (by rw [tC];omega) fun o dLen dCap tid cur hc hle hfit=>hcC W' (fun b hb=>by rw [hW'];exact k3.block b hb (fun h=>h)) W.heap.size o dLen dCap tid cur hc hle hfit
 have hC4:=hC3 W3.drew rfl;clear hC3;go_wp2;go_region_held3 (fun w'=>True) (trivial) (fail);go_wp2;go_ret;have hlen:(l.take k++x++l.drop (k+n)).length=l.length-n+x.length:=by rw [List.length_append,List.length_append,tB,tC];omega
 have k4:Kept (fun _=>False) w (W3.drew.setRow W.heap.size (Y2.toList.take ((k+x.length)*3)++nC++Y2.toList.drop ((k+x.length)*3+nC.length)).toArray):=k3.drew.setRow (.inl hkept.size) _;refine ⟨W.heap.size,(Y2.toList.take ((k+x.length)*3)++nC++Y2.toList.drop ((k+x.length)*3+nC.length)).toArray,?_,?_,hkept.size,?_,?_⟩
 ·rw [hlen,hvO];rfl
 ·simpa [lC] using k4
 ·have:=setRow_heap W3.drew W.heap.size Y2 (Y2.toList.take ((k+x.length)*3)++nC++Y2.toList.drop ((k+x.length)*3+nC.length)).toArray 68 (0,0) g3
  simpa [lC] using this
 ·have h3:=three Z.toList nB nX nC (by rw [Array.length_toList,hZ,lB,lX,lC];omega);have hY:(Y2.toList.take ((k+x.length)*3)++nC++Y2.toList.drop ((k+x.length)*3+nC.length)).toArray.toList=nB++nX++nC:=by rw [←h3,←hY2,←hY1];simp only [List.toList_toArray];rw [show (k+x.length)*3=nB.length+nX.length by rw [lB,lX];omega,show k*3=nB.length by rw [lB]]
  rw [hY];exact (EB.append EX).append EC
set_option maxHeartbeats 3200000 in
theorem yiv [Dfr] [zdv] (w:World) (F:Nat→Prop) (l:List Nd) (s0 s2:Option Addr) (c0 c2 xn:Nat) (k:Int)
 (hl:Cl F w (.slice 68 NdY) l [.slice s0 l.length c0]) (hk:k<0) (hll:l.length≤1000000):
 Calls Tryz.prog 72 #[.slice s0 l.length c0,.int .i64 k,.slice s2 xn c2] w (ygz F w l):=by
 have h0:¬(0:Int)≤k:=by omega
 have hs:(Tryz.prog.info? 68).map (·.size)=some NdY.sz:=by kernel_rfl
 obtain ⟨Z,hZ,hmk⟩:=qns l.length (by omega);obtain ⟨nB,EB,hcB⟩:=qcg (P:=Tryz.prog) (dT:=rowT) (sT:=rowT) (ty:=3) Tryz.underlying22 hs hl;have lB:nB.length=l.length*3:=EB.len;have hkept:=Kept.refl (fun _=>False) w;obtain ⟨vO,hvO,hmO⟩:∃vO,Value.slice (some ⟨w.heap.size,0,none⟩) l.length l.length=vO∧
  (Instr.makeSlice rowT (.int .i64 (l.length:Int)) (.int .i64 (l.length:Int))).run Tryz.prog w= .ok vO (w.alloc (.cells Z 68)):=⟨_,rfl,hmk w⟩
 clear hmk;go_enter Tryz.func72,Tryz.ntmps72;go_wp2;generalize hW1:w.alloc (.cells Z 68)=W1;have k1:Kept (fun _=>False) w W1:=by rw [←hW1];exact hkept.alloc _
 have g1:W1.heap[w.heap.size]? =some (.cells Z 68 (0,0)):=by rw [←hW1];simp [-World.alloc_eq,World.alloc]
 have hY:(Z.toList.take 0++nB++Z.toList.drop (0+nB.length)).toArray=nB.toArray:=by rw [List.drop_eq_nil_of_le (by rw [Array.length_toList,hZ,lB];omega)];simp
 have hC1:(Builtin.copy_ #[rowT,rowT] 3 #[vO,.slice s0 l.length c0]).run Tryz.prog W1= .ok (goInt l.length) (W1.setRow w.heap.size nB.toArray):=by have h:=hcB W1 (fun b hb=>k1.block b hb (fun h=>h)) w.heap.size 0 l.length l.length _ Z g1 (Nat.le_refl _) (by rw [hZ];show 0+l.length*3≤_;omega);rw [hY] at h;rw [←hvO];exact h
 rw [hC1];go_wp2;go_ret;refine ⟨w.heap.size,nB.toArray,by rw [hvO];rfl,k1.setRow (.inl hkept.size) _,hkept.size,setRow_heap W1 w.heap.size Z _ 68 _ g1,by rw [List.toList_toArray];exact EB⟩
set_option maxHeartbeats 3200000 in
theorem yiw [Dfr] [zdv] (w:World) (F:Nat→Prop) (l:List Nd) (s0 s2:Option Addr) (c0 c2 xn:Nat) (k:Int)
 (hl:Cl F w (.slice 68 NdY) l [.slice s0 l.length c0]) (hk:(l.length:Int)≤k) (hll:l.length≤1000000):
 Calls Tryz.prog 72 #[.slice s0 l.length c0,.int .i64 k,.slice s2 xn c2] w (ygz F w l):=by
 have h0:(0:Int)≤k:=by omega
 have h0b:¬k<0:=by omega
 have h1:¬k<(l.length:Int):=by omega
 have hs:(Tryz.prog.info? 68).map (·.size)=some NdY.sz:=by kernel_rfl
 obtain ⟨Z,hZ,hmk⟩:=qns l.length (by omega);obtain ⟨nB,EB,hcB⟩:=qcg (P:=Tryz.prog) (dT:=rowT) (sT:=rowT) (ty:=3) Tryz.underlying22 hs hl;have lB:nB.length=l.length*3:=EB.len;have hkept:=Kept.refl (fun _=>False) w;obtain ⟨vO,hvO,hmO⟩:∃vO,Value.slice (some ⟨w.heap.size,0,none⟩) l.length l.length=vO∧
  (Instr.makeSlice rowT (.int .i64 (l.length:Int)) (.int .i64 (l.length:Int))).run Tryz.prog w= .ok vO (w.alloc (.cells Z 68)):=⟨_,rfl,hmk w⟩
 clear hmk;go_enter Tryz.func72,Tryz.ntmps72;go_wp2;generalize hW1:w.alloc (.cells Z 68)=W1;have k1:Kept (fun _=>False) w W1:=by rw [←hW1];exact hkept.alloc _
 have g1:W1.heap[w.heap.size]? =some (.cells Z 68 (0,0)):=by rw [←hW1];simp [-World.alloc_eq,World.alloc]
 have hY:(Z.toList.take 0++nB++Z.toList.drop (0+nB.length)).toArray=nB.toArray:=by rw [List.drop_eq_nil_of_le (by rw [Array.length_toList,hZ,lB];omega)];simp
 have hC1:(Builtin.copy_ #[rowT,rowT] 3 #[vO,.slice s0 l.length c0]).run Tryz.prog W1= .ok (goInt l.length) (W1.setRow w.heap.size nB.toArray):=by have h:=hcB W1 (fun b hb=>k1.block b hb (fun h=>h)) w.heap.size 0 l.length l.length _ Z g1 (Nat.le_refl _) (by rw [hZ];show 0+l.length*3≤_;omega);rw [hY] at h;rw [←hvO];exact h
 rw [hC1];go_wp2;go_ret;refine ⟨w.heap.size,nB.toArray,by rw [hvO];rfl,k1.setRow (.inl hkept.size) _,hkept.size,setRow_heap W1 w.heap.size Z _ 68 _ g1,by rw [List.toList_toArray];exact EB⟩
set_option maxHeartbeats 3200000 in
theorem yiu [Dfr] [zdv] (w:World) (F:Nat→Prop) (l:List Nd) (s0 s2:Option Addr) (c0 c2 xn k:Nat) (hF:∀b,F b→b<w.heap.size) (hg:zdp E F w)
 (hl:Cl F w (.slice 68 NdY) l [.slice s0 l.length c0]) (hk:k<l.length) (hn:zly (l.drop k)=some 0) (hll:l.length≤1000000):
 Calls Tryz.prog 72 #[.slice s0 l.length c0,.int .i64 (k:Int),.slice s2 xn c2] w (ygz F w l):=by
 have h0:(0:Int)≤(k:Int):=by omega
 have h1:(k:Int)<(l.length:Int):=by omega
 obtain ⟨vA,hA,clA⟩:=ybs hl (lo:=some (.int .i64 (k:Int))) (hi:=none) (l:=(k:Int)) (h:=(l.length:Int)) (.inr ⟨_,rfl⟩) (.inl ⟨rfl,rfl⟩) h0 (by omega) (Int.le_refl _);have eA:cut l (k:Int) (l.length:Int)=l.drop k:=by rw [zpg];simp
 rw [eA] at clA;have hs:(Tryz.prog.info? 68).map (·.size)=some NdY.sz:=by kernel_rfl
 obtain ⟨Z,hZ,hmk⟩:=qns l.length (by omega);obtain ⟨nB,EB,hcB⟩:=qcg (P:=Tryz.prog) (dT:=rowT) (sT:=rowT) (ty:=3) Tryz.underlying22 hs hl;have lB:nB.length=l.length*3:=EB.len;go_enter Tryz.func72,Tryz.ntmps72;go_wp2_with (go_at_fn 128);refine (qvw hn hF hg clA).mono ?_;rintro e W ⟨rfl,hkept⟩;obtain ⟨vO,hvO,hmO⟩:∃vO,Value.slice (some ⟨W.heap.size,0,none⟩) l.length l.length=vO∧
  (Instr.makeSlice rowT (.int .i64 (l.length:Int)) (.int .i64 (l.length:Int))).run Tryz.prog W= .ok vO (W.alloc (.cells Z 68)):=⟨_,rfl,hmk W⟩
 clear hmk;go_wp2;generalize hW1:W.alloc (.cells Z 68)=W1;have k1:Kept (fun _=>False) w W1:=by rw [←hW1];exact hkept.alloc _
 have g1:W1.heap[W.heap.size]? =some (.cells Z 68 (0,0)):=by rw [←hW1];simp [-World.alloc_eq,World.alloc]
 have hY:(Z.toList.take 0++nB++Z.toList.drop (0+nB.length)).toArray=nB.toArray:=by rw [List.drop_eq_nil_of_le (by rw [Array.length_toList,hZ,lB];omega)];simp
 have hC1:(Builtin.copy_ #[rowT,rowT] 3 #[vO,.slice s0 l.length c0]).run Tryz.prog W1= .ok (goInt l.length) (W1.setRow W.heap.size nB.toArray):=by have h:=hcB W1 (fun b hb=>k1.block b hb (fun h=>h)) W.heap.size 0 l.length l.length _ Z g1 (Nat.le_refl _) (by rw [hZ];show 0+l.length*3≤_;omega);rw [hY] at h;rw [←hvO];exact h
 rw [hC1];go_wp2;go_ret;refine ⟨W.heap.size,nB.toArray,by rw [hvO];rfl,k1.setRow (.inl hkept.size) _,hkept.size,setRow_heap W1 W.heap.size Z _ 68 _ g1,by rw [List.toList_toArray];exact EB⟩
theorem xcr [Dfr] (l:List Nd):sz l≤l.length:=by
 unfold sz;cases h:P l with
 |none=>simp
 |some q=>obtain ⟨t,r⟩:=q;have e:=(xhv.1 h).2;rw [e,List.length_append,T.zac];simp
def putR (l:List Nd) (k:Int) (x:List Nd):List Nd:=
 if 0≤k∧k<(l.length:Int)∧0<sz (l.drop k.toNat) then l.take k.toNat++x++l.drop (k.toNat+sz (l.drop k.toNat)) else l
def qbu (l:List Nd) (k:Int) (x:List Nd):Option (List Nd):=if l.length≤1000000∧x.length≤1000000 then some (putR l k x) else none
class zji [Dfr]:Prop where
 put:∀l k x,zpo l k x=qbu l k x
theorem ytc [Dfr] [zdv] (w:World) (F:Nat→Prop) (l x:List Nd) (k:Int) (s0 s2:Option Addr) (c0 c2:Nat) (hF:∀b,F b→b<w.heap.size) (hg:zdp E F w)
 (hl:Cl F w (.slice 68 NdY) l [.slice s0 l.length c0]) (hx:Cl F w (.slice 68 NdY) x [.slice s2 x.length c2]) (hll:l.length≤1000000) (hxl:x.length≤1000000):
 Calls Tryz.prog 72 #[.slice s0 l.length c0,.int .i64 k,.slice s2 x.length c2] w (ygz F w (putR l k x)):=by
 unfold putR;by_cases h0:k<0
 ·rw [if_neg (by omega)];exact yiv w F l s0 s2 c0 c2 x.length k hl h0 hll
 ·obtain ⟨j,rfl⟩:=Int.eq_ofNat_of_zero_le (a:=k) (by omega);by_cases h1:j<l.length
  ·have hd:(l.drop j).length≤1000000:=by rw [List.length_drop];omega
   have hsz:=zvc (l.drop j) (by omega);have hle:=xcr (l.drop j);rw [List.length_drop] at hle;by_cases h2:0<sz (l.drop j)
   ·rw [if_pos ⟨by omega,by omega,by simpa using h2⟩];exact yom w F l x s0 s2 c0 c2 j (sz (l.drop j)) hF hg hl hx h1 hsz h2 (by omega) hll hxl
   ·rw [if_neg (fun h=>h2 (by simpa using h.2.2))];have:sz (l.drop j)=0:=by omega
    rw [this] at hsz;exact yiu w F l s0 s2 c0 c2 x.length j hF hg hl h1 hsz hll
  ·rw [if_neg (by omega)];exact yiw w F l s0 s2 c0 c2 x.length (j:Int) hl (by omega) hll
theorem qlv [Dfr] [zdv] (l:List Nd) (k:Int) (x:List Nd) (r:List Nd) (h:qbu l k x=some r):zco Tryz.prog E 72 (l,k,x) r:=by
 unfold qbu at h;split at h
 ·rename_i hc;obtain ⟨hll,hxl⟩:=hc;cases h;intro w F0 G A vs hA;obtain ⟨v0,v1,v2,rfl,h0,h1,h2⟩:∃v0 v1 v2,vs=[v0,v1,v2]∧Cl (A.F F0) w (.slice 68 NdY) l [v0]∧v1= .int .i64 k∧Cl (A.F F0) w (.slice 68 NdY) x [v2]:=by
   have hr:=hA.rel;cases hr with
   |cons a hr=>cases hr with
    |cons b hr=>cases hr with
     |cons c hr=>cases hr;exact ⟨_,_,_,rfl,a,b,c⟩
  subst h1;have shape:∀{y:List Nd} {v:Value},Cl (A.F F0) w (.slice 68 NdY) y [v]→∃s c,v= .slice s y.length c:=fun h=>by rw [Cl] at h;obtain ⟨a,c,e,_⟩:=h;exact ⟨a,c,(List.cons.inj e).1⟩
  obtain ⟨s0,c0,rfl⟩:=shape h0;obtain ⟨s2,c2,rfl⟩:=shape h2;have hF:∀b,A.F F0 b→b<w.heap.size:=fun b hb=>by
   rcases hb with hb|⟨d,hb⟩|⟨n,l,hb⟩
   ·exact (hA.f0 b hb).1
   ·rw [hA.bx] at hb;cases hb
   ·exact (hA.tgm n b l hb).2
  refine (ytc w (A.F F0) l x k s0 s2 c0 c2 hF hA.glob h0 h2 hll hxl).mono ?_;rintro e w' ⟨g,cur,rfl,hk,hg,hh,hE⟩;have hgl:g<w'.heap.size:=(Array.getElem?_eq_some_iff.1 hh).1;refine ⟨_,rfl,⟨hk.os,hk.tape,hk.output,hk.size,fun b hb _=>hk.block b hb (fun h=>h),hk.drawn⟩,fun d=>⟨⟨fun _=>none,fun n=>if n=zbp d 0 0 then some (g,(putR l k x).length) else none⟩,?_,fun _=>rfl,fun n b l h=> ?_,fun n n' b l l' h h'=> ?_⟩⟩
  ·have S:Step (A.F F0) (Fr.F ⟨fun _=>none,fun n=>if n=zbp d 0 0 then some (g,(putR l k x).length) else none⟩ F0) w w':=by
    refine ⟨fun b hb hlt=>hk.block b hlt (fun h=>h),fun b hb=> ?_⟩;rcases hb with hb|⟨d',hb⟩|⟨n,l',hb⟩
    ·exact .inl (.inl hb)
    ·cases hb
    ·simp only at hb;split at hb
     ·cases hb;exact .inr hg
     ·cases hb
   have hlen:=hE.len;refine .inr ⟨g,(putR l k x).length,if_pos rfl,rfl,(putR l k x).length,cur,rfl,hh,Nat.le_refl _,?_,by rw [←Array.length_toList];exact hlen,fun i y hy=> ?_⟩
   ·have:(putR l k x).length≤3000000:=by
     unfold putR;split
     ·rw [List.length_append,List.length_append,List.length_take,List.length_drop];omega
     ·omega
    unfold maxLen;omega
   ·obtain ⟨ds,hd,hj⟩:=hE.el i y hy;refine ⟨ds,hd.step S,fun j u hu=> ?_⟩;have:=hj j u hu
    rwa [Array.getElem?_toList] at this
  ·simp only at h;split at h
   ·cases h;exact ⟨.inl hg,hgl⟩
   ·cases h
  ·simp only at h h';split at h
   ·split at h'
    ·rename_i e1 e2;rw [e1,e2]
    ·cases h'
   ·cases h
 ·cases h
open Go Go.Sv Go.Rd
theorem ynm [Dfr] [zji] (l:List Nd) (k:Int) (x:List Nd) (hl:l.length≤1000000) (hx:x.length≤1000000):qyi l k x=some (putR l k x):=by rw [yhn,zji.put,qbu,if_pos ⟨hl,hx⟩]
theorem yar [Dfr] (l:List Nd) (k:Int) (x:List Nd):(putR l k x).length≤l.length+x.length:=by
 unfold putR;split
 ·rw [List.length_append,List.length_append,List.length_take,List.length_drop];omega
 ·omega
def zkz (l:List Nd) (how:Int):List Nd:=
 if how=2 then ix (zea l) 0 else if how=3 then ix (zea l) 1 else
 if how=5 then (if (ix l 0).1=10 then [(14,ByteArray.empty,3),(2,ByteArray.empty,0)] else [(11,ByteArray.empty,3)])
 else (if (ix l 0).1=10 then (12,ByteArray.empty,0)::(zea l).flatten else [(11,ByteArray.empty,1)])
theorem qic [Dfr] (l:List Nd):(zea l).flatten.length≤l.length∧(zea l).length≤2:=by
 unfold zea;cases h:P l with
 |none=>simp
 |some q=>obtain ⟨t,r⟩:=q;have e:=(xhv.1 h).2;rw [e];cases t<;>simp [T.kids,T.row]<;>omega
theorem yux [Dfr] (l:List Nd) (i:Int) (hi:zaa i (zea l).length=true):(ix (zea l) i).length≤l.length:=by
 obtain ⟨h0,h1⟩:=qat hi;obtain ⟨j,rfl⟩:=Int.eq_ofNat_of_zero_le h0;have hj:j<(zea l).length:=by omega
 have:=(qic l).1;rw [qar hj];have h2:((zea l)[j]).length≤(zea l).flatten.length:=by exact (List.sublist_flatten_of_mem (List.getElem_mem hj)).length_le
 omega
theorem yhm [Dfr] (l:List Nd) (how:Int) (hl:l.length≤500000) (h0:l≠[]) (h2:how=2∨how=3→(zea l).length=2):qox l how=some (zkz l how):=by
 have hpos:0<l.length:=List.length_pos_iff.2 h0;obtain ⟨k1,k2⟩:=qic l;have hm1:∀x y:List Nd,zwi x y l=some (if (ix l 0).1=10 then y else x):=fun x y=>by
  rw [qtt,show zaa 0 l.length=true from zam hpos];by_cases e:(ix l 0).1=10
  ·rw [if_pos e,show ((ix l 0).1==10)=true by rw [e];rfl];rfl
  ·rw [if_neg e,show ((ix l 0).1==10)=false by rw [beq_eq_false_iff_ne];exact e];rfl
 rw [ycv,zjl l (by omega)];unfold zkz;simp only [Option.bind_some,ycx,hm1];have hmk:zbr (14,ByteArray.empty,3) [[(2,ByteArray.empty,0)]]=some [(14,ByteArray.empty,3),(2,ByteArray.empty,0)]:=qbp _ _ (by decide) (by decide);have hmk2:zbr (12,ByteArray.empty,0) (zea l)=some ((12,ByteArray.empty,0)::(zea l).flatten):=qbp _ _ (by rw [zth];omega) (by omega);by_cases e2:how=2
 ·subst e2;have:=h2 (.inl rfl);rw [show ((2:Int)==2)=true from rfl,if_pos rfl,cond_true,this];rfl
 by_cases e3:how=3
 ·subst e3;have:=h2 (.inr rfl);rw [if_neg e2,if_pos rfl,this];rfl
 by_cases e5:how=5
 ·subst e5;rw [if_neg e2,if_neg e3,if_pos rfl];simp only [show ((5:Int)==2)=false from rfl,show ((5:Int)==3)=false from rfl,show ((5:Int)==5)=true from rfl,cond_false,cond_true,hmk,Option.bind_some,hm1]
 ·rw [if_neg e2,if_neg e3,if_neg e5];simp only [show (how==2)=false by rw [beq_eq_false_iff_ne];exact e2,show (how==3)=false by rw [beq_eq_false_iff_ne];exact e3,show (how==5)=false by rw [beq_eq_false_iff_ne];exact e5,cond_false,hmk2,Option.bind_some,hm1]
theorem yig [Dfr] (l:List Nd) (k:Int) (x:List Nd) (hl:l.length≤1000000) (hx:x.length≤1000000):qha l k x=some (putR l k x):=by
 rw [yeb];unfold putR;by_cases h0:k<0
 ·rw [decide_eq_true h0,if_neg (by omega)];rfl
 ·obtain ⟨j,rfl⟩:=Int.eq_ofNat_of_zero_le (a:=k) (by omega);rw [decide_eq_false h0,cond_false];by_cases h1:j<l.length
  ·have hle:=xcr (l.drop j);rw [List.length_drop] at hle;have c1:cut l (j:Int) (l.length:Int)=l.drop j:=by rw [zpg];simp
   have c2:cut l 0 (j:Int)=l.take j:=by rw [show (0:Int)=((0:Nat):Int) from rfl,zpg];simp
   have hd:(l.drop j).length≤4611686018427387904:=by rw [List.length_drop];omega
   have ht:(l.take j).length=j:=by rw [List.length_take,Nat.min_eq_left (by omega)]
   rw [decide_eq_false (show ¬(j:Int)≥(l.length:Int) by omega),cond_false,zep (by omega) (Nat.le_refl _),c1];simp only [cond_true,qae _ hd,Option.bind_some,Int.toNat_natCast];by_cases h2:0<sz (l.drop j)
   ·have hw:w64 ((j:Int)+(sz (l.drop j):Int))=((j+sz (l.drop j):Nat):Int):=by rw [zfi (by omega) (by omega)];omega
    have c3:cut l ((j+sz (l.drop j):Nat):Int) (l.length:Int)=l.drop (j+sz (l.drop j)):=by rw [zpg];simp
    rw [if_pos ⟨by omega,by omega,h2⟩,show ((sz (l.drop j):Int)==0)=false by rw [beq_eq_false_iff_ne];omega,cond_false,c2,hw,c3];rw [show zaw 0 (j:Int) l.length=true from zep (a:=0) (Nat.zero_le _) (by omega),zep (by omega) (Nat.le_refl _)];simp only [cond_true,List.nil_append,List.length_append,ht,List.length_drop];rw [room (show (0+j)*32≤140737488355328 by omega),room (show (j+x.length)*32≤140737488355328 by omega),room (show (j+x.length+(l.length-(j+sz (l.drop j))))*32≤140737488355328 by omega)];rfl
   ·rw [if_neg (fun h=>h2 h.2.2),show ((sz (l.drop j):Int)==0)=true by rw [show sz (l.drop j)=0 by omega];rfl];rfl
  ·rw [decide_eq_true (show (j:Int)≥(l.length:Int) by omega),if_neg (by omega)];rfl
theorem ylk [Dfr]:∀(t:T) (k:Nat),t.ok→k<t.size→∃(S:T) (r:List Nd),S.ok∧t.row.drop k=S.row++r
 | .n0 n,0,h,_=>⟨.n0 n,[],h,by simp⟩
 | .n1 n a,0,h,_=>⟨.n1 n a,[],h,by simp⟩
 | .n2 n a b,0,h,_=>⟨.n2 n a b,[],h,by simp⟩
 | .n0 n,k+1,h,hk=>by simp only [T.size] at hk;omega
 | .n1 n a,k+1,h,hk=>by simp only [T.size] at hk;obtain ⟨S,r,h1,h2⟩:=ylk a k h.2 (by omega);exact ⟨S,r,h1,h2⟩
 | .n2 n a b,k+1,h,hk=>by
   simp only [T.size] at hk;by_cases hl:k<a.size
   ·obtain ⟨S,r,h1,h2⟩:=ylk a k h.2.1 hl;refine ⟨S,r++b.row,h1,?_⟩;show (a.row++b.row).drop k=_;rw [List.drop_append_of_le_length (by rw [T.zac];omega),h2,List.append_assoc]
   ·obtain ⟨S,r,h1,h2⟩:=ylk b (k-a.size) h.2.2 (by omega);refine ⟨S,r,h1,?_⟩;show (a.row++b.row).drop k=_;rw [show k=a.row.length+(k-a.size) by rw [T.zac];omega,←List.drop_drop,List.drop_left,h2]
theorem xby [Dfr] {l:List Nd} {m:Mv} (h:m∈enL l):setL l∧∃(t:T) (k:Nat),tree l=some t∧m.1=(k:Int)∧k<l.length∧k∈t.wts 0∧zdo (l.getD k default).1=true∧m∈zic (l.getD k default).1 (k:Int) (qfg t k):=by
 by_cases hs:setL l
 ·obtain ⟨n,_,_,_,_,_,_,ht⟩:=qbm hs;rw [qmi ht hs] at h;obtain ⟨k,hk,hm⟩:=List.mem_flatMap.1 h;obtain ⟨h1,h2⟩:=yle ht hk;exact ⟨hs,n.t,k,ht,yuc.1 _ hm,h1,hk,h2,hm⟩
 ·rw [ygg hs] at h;cases h
theorem yvp [Dfr] {l:List Nd} {m:Mv} (h:m∈enL l):∃(k:Nat) (S:T) (r:List Nd),m.1=(k:Int)∧k<l.length∧S.ok∧l.drop k=S.row++r∧S.hd=l.getD k default∧(m.2=2∨m.2=3→S.hd.1=6):=by
 obtain ⟨hs,t,k,ht,hm,hk,hkw,hw,hin⟩:=xby h;obtain ⟨hok,hrow⟩:=zga.1 ht;obtain ⟨S,r,h1,h2⟩:=ylk t k hok (by rw [←T.zac,←hrow];exact hk);rw [←hrow] at h2;have hd:S.hd=l.getD k default:=by
  have h3:l[k]? =some S.hd:=by rw [←List.head?_drop,h2];cases S<;>rfl
  rw [List.getD_eq_getElem?_getD,h3];rfl
 refine ⟨k,S,r,hm,hk,h1,h2,hd,fun h23=> ?_⟩;rw [hd];unfold zic at hin;split at hin
 ·simp at hin;subst hin;simp at h23
 ·split at hin
  ·assumption
  ·simp only [List.mem_cons] at hin;rcases hin with hin|hin
   ·subst hin;simp at h23
   ·split at hin
    ·simp at hin;subst hin;simp at h23
    ·cases hin
theorem qib [Dfr] {S:T} {r:List Nd} (h:S.ok) (h6:S.hd.1=6):(zea (S.row++r)).length=2:=by
 unfold zea;rw [qfr h];cases S with
 |n0 n=>have:=ar0 h;simp only [T.hd] at h6;omega
 |n1 n a=>have:=ar1 h.1;simp only [T.hd] at h6;omega
 |n2 n a b=>rfl
noncomputable def zdc (l:List Nd) (m:Mv):List Nd×ByteArray×Int:=
 if m∈enL l then (zbl (putR l m.1 (zkz (l.drop m.1.toNat) m.2)),(ix (l.drop m.1.toNat) 0).2.1,0) else ([],⟨#[]⟩,120)
theorem yba [Dfr] (l:List Nd) (how:Int) (h2:how=2∨how=3→(zea l).length=2):(zkz l how).length≤l.length+2:=by
 obtain ⟨k1,k2⟩:=qic l;unfold zkz;split
 ·rename_i h;have:=yux l 0 (by rw [h2 (.inl h)];rfl);omega
 ·split
  ·rename_i h;have:=yux l 1 (by rw [h2 (.inr h)];rfl);omega
  ·split
   ·split<;>simp
   ·split
    ·rw [List.length_cons];omega
    ·simp
theorem qdy [Dfr] [zcd] [zdi] [zji] (l:List Nd) (m:Mv) (hl:l.length≤400000):zqs l m=some (zdc l m):=by
 rw [ycy,yud l m (by omega),Option.bind_some];unfold zdc;by_cases hm:m∈enL l
 ·rw [decide_eq_true hm,if_pos hm];obtain ⟨k,S,r,h1,h2,h3,h4,h5,h6⟩:=yvp hm;have hk2:m.2=2∨m.2=3→(zea (l.drop k)).length=2:=fun h=>by rw [h4];exact qib h3 (h6 h)
  have hc:cut l (k:Int) (l.length:Int)=l.drop k:=by rw [zpg];simp
  have hdl:(l.drop k).length=l.length-k:=List.length_drop;have hne:l.drop k≠[]:=fun h=>by rw [h] at hdl;simp at hdl;omega
  have hml:=yba (l.drop k) m.2 hk2;have hpl:=yar l (k:Int) (zkz (l.drop k) m.2);rw [h1,Int.toNat_natCast,zep (by omega) (Nat.le_refl _),hc];simp only [Bool.not_true,cond_false,cond_true,yhm (l.drop k) m.2 (by omega) hne hk2,Option.bind_some,ynm l (k:Int) _ (show l.length≤1000000 by omega) (show (zkz (l.drop k) m.2).length≤1000000 by omega),
   zzd _ (show (putR l (k:Int) (zkz (l.drop k) m.2)).length≤4611686018427387904 by omega),show zaa 0 (l.drop k).length=true from zam (by omega)]
 ·rw [decide_eq_false hm,if_neg hm];rfl
theorem znd [Dfr] (l:List Nd) (xs:List Int) (hx:xs.length≤1000000) (fr:Int→Bool) (hk:∀x∈xs,zaa x l.length=true∧qbs l x=some (fr x)):∀(r:List Int) (i:Nat) (acc:List Mv),xs.drop i=r→acc.length≤2*i→
 zem l acc xs (i:Int)=some (0,acc++r.flatMap fun x=>zic (ix l x).1 x (fr x))
 |[],i,acc,h,ha=>by obtain ⟨h1,h2⟩:=drop_nil h;rw [zrd];simp only [h2,cond_false];simp
 |x::r,i,acc,h,ha=>by
  obtain ⟨h1,h2,h3,h4,h5,h6⟩:=zab h;obtain ⟨k1,k3⟩:=hk x (List.mem_of_mem_drop (by rw [h];exact List.mem_cons_self ..));have ih:=fun acc ha=>znd l xs hx fr hk r (i+1) acc h5 ha
  rw [zrd];simp only [h2,h3,h4,cond_true,k1,zar (show i<9223372036854775807 by omega),room (show (acc.length+1)*16≤140737488355328 by omega),room (show (acc.length+2)*16≤140737488355328 by omega),k3,Option.bind_some];rw [List.flatMap_cons];by_cases e1:(ix l x).1=1
  ·rw [show ((ix l x).1==1)=true by rw [e1];rfl,cond_true,ih _ (by simp;omega)];simp [zic,e1]
  ·rw [show ((ix l x).1==1)=false by rw [beq_eq_false_iff_ne];exact e1,cond_false];by_cases e6:(ix l x).1=6
   ·rw [show ((ix l x).1==6)=true by rw [e6];rfl,cond_true,ih _ (by simp;omega)];simp [zic,e6]
   ·rw [show ((ix l x).1==6)=false by rw [beq_eq_false_iff_ne];exact e6,cond_false];cases hf:fr x with
    |true=>rw [cond_true,room (show ((acc++[(x,(4:Int))]).length+1)*16≤140737488355328 by rw [List.length_append];simp;omega),cond_true,ih _ (by simp;omega)];simp [zic,e1,e6]
    |false=>rw [cond_false,ih _ (by simp;omega)];simp [zic,e1,e6]
theorem zoz [Dfr] (l:List Nd) (hl:l.length≤1000000) (hn:∀n∈l,n.2.1.size≤9223372036854775807):zhb l=some (enL l):=by
 by_cases hs:setL l
 ·obtain ⟨m,hm,_,_,_,_,_,ht⟩:=qbm hs;obtain ⟨hok,hrow⟩:=zga.1 ht;have hlen:l.length=m.t.size:=by rw [hrow,T.zac]
  have hw:=qfw m.t;have e:=znd l ((m.t.wts 0).map fun (k:Nat)=>(k:Int)) (by rw [List.length_map];omega) (fun x=>qfg m.t x.toNat) (fun x hx=>by obtain ⟨k1,k2,_⟩:=yld ht hx;obtain ⟨k,hk,rfl⟩:=List.mem_map.1 hx;exact ⟨k1,qzu ht hl hn (yop ht hn) hs hk⟩) _ 0 [] rfl (by simp);rw [Int.natCast_zero] at e;rw [zyd,qdc ht hl hn hs,Option.bind_some,e,Option.bind_some,List.nil_append,qmi ht hs]
  congr 1
  show List.flatMap _ (List.drop 0 _)=_;unfold mvsT;rw [List.drop_zero,List.flatMap_map,List.flatMap_def,List.flatMap_def];refine congrArg List.flatten (List.map_congr_left fun k hk=> ?_);rw [(yld ht (List.mem_map.2 ⟨k,hk,rfl⟩)).2.2];rfl
 ·have e:=znd l [] (by simp) (fun _=>false) (fun x hx=>by cases hx) [] 0 [] rfl (by simp);rw [Int.natCast_zero] at e;rw [zyd,qqm hl hn hs,Option.bind_some,e,ygg hs];rfl
theorem qln [Dfr] (xs:List Mv) (x:Mv) (b:Bool) (hx:xs.length≤1000000):∀(r:List Mv) (i:Nat),xs.drop i=r→zwz x b xs (i:Int)=some (if x∈r then (1,true) else (0,b))
 |[],i,h=>by obtain ⟨h1,h2⟩:=drop_nil h;rw [qcy];simp only [h2,cond_false];simp
 |y::r,i,h=>by
  obtain ⟨h1,h2,h3,h4,h5,h6⟩:=zab h;rw [qcy];simp only [h2,h3,h4,cond_true,xgy,zar (show i<9223372036854775807 by omega),qln xs x b hx r (i+1) h5];by_cases e:y=x
  ·subst e;simp
  ·rw [decide_eq_false e];simp [show ¬x=y from fun h=>e h.symm]
theorem yoh [Dfr] (l:List Nd) (m:Mv) (hl:l.length≤1000000) (hn:∀n∈l,n.2.1.size≤9223372036854775807):qzq l m=some (decide (m∈enL l)):=by have h:=qkg l;have e:=qln (enL l) m false (by omega) (enL l) 0 rfl;rw [Int.natCast_zero] at e;rw [yih,zoz l hl hn,Option.bind_some,e,Option.bind_some];by_cases h:m∈enL l<;>simp [h,Nat.beq]
end Go.Proofs.YtjolkdjkhekbnaaGreatDoor.Sv
namespace Go.Rd
open Go Go.Sv
namespace Tm
def Wt (u:Tm):Prop:=(∃s,u=act s)∨(∃a b,u=alt a b)∨u=yield∨∃a b,u=pair a b
end Tm
end Go.Rd
namespace Go.Proofs.YtjolkdjkhekbnaaGreatDoor.Sv
open Go Go.Sv Go.Rd
def cntW (l:List Nd):Nat:=l.countP fun n=>zdo n.1
def wW (n:Nd):Nat:=if zdo n.1=true then 1 else 0
theorem qoa [Dfr] (l:List Nd):cntW l=(l.map wW).sum:=by
 induction l with
 |nil=>rfl
 |cons n r ih=>unfold cntW at ih ⊢;rw [List.countP_cons,List.map_cons,List.sum_cons,←ih];exact Nat.add_comm _ _
theorem qob [Dfr] (a b:List Nd):cntW (a++b)=cntW a+cntW b:=List.countP_append
theorem qiu [Dfr] (n:Nd) (l:List Nd):cntW (n::l)=wW n+cntW l:=by rw [qoa,qoa,List.map_cons,List.sum_cons]
theorem xbe [Dfr]:Tm.Light wW:=⟨rfl,fun _=>rfl,fun _=>rfl,rfl,rfl⟩
theorem ykh [Dfr] (x:List Nd):cntW (zbl x)≤cntW x:=by
 rcases qgs x with h|⟨m,rfl,_,_,_,h,_⟩
 ·rw [h];exact Nat.zero_le _
 ·rw [h,qoa,qoa];exact Tm.xic wW xbe m
theorem yul [Dfr] {S:T} {r:List Nd} {how:Int} (h:S.ok) (hw:zdo S.hd.1=true) (h6:how=2∨how=3→S.hd.1=6):cntW (zkz (S.row++r) how)<cntW S.row:=by
 have hk:zea (S.row++r)=S.kids.map T.row:=by unfold zea;rw [qfr h]
 have hx:ix (S.row++r) 0=S.hd:=by cases S<;>rfl
 have hS:cntW S.row=1+cntW (zea (S.row++r)).flatten:=by
  have w1:wW S.hd=1:=by unfold wW;rw [if_pos hw]
  rw [hk];cases S with
  |n0 n=>rw [show (T.n0 n).row=[n] from rfl,qiu,show wW n=1 from w1];rfl
  |n1 n a=>rw [show (T.n1 n a).row=n::a.row from rfl,qiu,show wW n=1 from w1];simp [T.kids]
  |n2 n a b=>rw [show (T.n2 n a b).row=n::(a.row++b.row) from rfl,qiu,show wW n=1 from w1];simp [T.kids]
 have hpart:∀i:Nat,i<(zea (S.row++r)).length→cntW (ix (zea (S.row++r)) (i:Int))≤cntW (zea (S.row++r)).flatten:=fun i hi=>by rw [qar hi];exact (List.sublist_flatten_of_mem (List.getElem_mem hi)).countP_le
 unfold zkz;split
 ·rename_i h2;have:=hpart 0 (by rw [qib h (h6 (.inl h2))];omega);rw [Int.natCast_zero] at this;omega
 ·split
  ·rename_i h3;have:=hpart 1 (by rw [qib h (h6 (.inr h3))];omega);have e:((1:Nat):Int)=1:=rfl;rw [e] at this;omega
  ·split
   ·split
    ·rw [show cntW [(14,ByteArray.empty,3),(2,ByteArray.empty,0)]=0 from rfl];omega
    ·rw [show cntW [(11,ByteArray.empty,3)]=0 from rfl];omega
   ·split
    ·rw [qiu,show wW (12,ByteArray.empty,0)=0 from rfl];omega
    ·rw [show cntW [(11,ByteArray.empty,1)]=0 from rfl];omega
theorem qao [Dfr] {l:List Nd} {m:Mv} (hm:m∈enL l):(zdc l m).2.2=0∧cntW (zdc l m).1<cntW l∧(zdc l m).1.length≤1000000∧(decide ((zdc l m).2.1=⟨#[]⟩)= !decide (m.2=1)):=by
 obtain ⟨hs,t,k0,ht,hm1,hk0,hkw,hw,hin⟩:=xby hm;obtain ⟨k,S,r,h1,h2,h3,h4,h5,h6⟩:=yvp hm;obtain rfl:k0=k:=by omega
 obtain ⟨n,hn,hfi,hz,_,_,_,_⟩:=qbm hs;have hlen:l.length≤200:=by rw [hn,Tm.zac];exact hz
 have hmade:=yul (r:=r) (how:=m.2) h3 (by rw [h5];exact hw) h6;rw [←h4] at hmade;have hml:=yba (l.drop k0) m.2 (fun h=>by rw [h4];exact qib h3 (h6 h));have hpl:=yar l m.1 (zkz (l.drop k0) m.2);have hdl:(l.drop k0).length=l.length-k0:=List.length_drop;have hset:=qed (putR l m.1 (zkz (l.drop k0) m.2));have hput:cntW (putR l m.1 (zkz (l.drop k0) m.2))<cntW l:=by
  have hsz:sz (l.drop k0)=S.size:=by unfold sz;rw [h4,qfr h3]
  have hpos:=T.zux S;unfold putR;rw [if_pos ⟨by omega,by omega,by rw [h1,Int.toNat_natCast,hsz];omega⟩,h1,Int.toNat_natCast,hsz,qob,qob];have e:l=l.take k0++(S.row++r):=by rw [←h4,List.take_append_drop]
  have e2:l.drop (k0+S.size)=r:=by rw [←List.drop_drop,h4,←T.zac S,List.drop_left]
  have e3:cntW l=cntW (l.take k0)+(cntW S.row+cntW r):=by
   conv=>lhs;rw [e]
   rw [qob,qob]
  rw [e2,e3];omega
 unfold zdc;rw [if_pos hm,h1,Int.toNat_natCast,←h1];refine ⟨rfl,Nat.lt_of_le_of_lt (ykh _) hput,by show (zbl (putR l m.1 (zkz (l.drop k0) m.2))).length≤1000000;omega,?_⟩;have hx:ix (l.drop k0) 0=l.getD k0 default:=by rw [h4,←h5];cases S<;>rfl
 have hr:right (l.getD k0 default)=true:=by refine zjm hfi _ ?_;rw [←hn,List.getD_eq_getElem?_getD,List.getElem?_eq_getElem hk0];exact List.getElem_mem hk0
 show decide ((ix (l.drop k0) 0).2.1=⟨#[]⟩)=_;rw [hx];generalize l.getD k0 default=q at hr hw hin;have hq:q.1=1∨q.1=6∨q.1=4∨q.1=10:=by unfold zdo at hw;exact of_decide_eq_true hw
 have hm2:m.2=1↔q.1=1:=by
  unfold zic at hin;constructor
  ·intro h;by_cases e:q.1=1
   ·exact e
   ·rw [if_neg e] at hin;split at hin
    ·simp only [List.mem_cons,List.not_mem_nil,or_false] at hin;rcases hin with hin|hin<;>rw [hin] at h<;>simp at h
    ·simp only [List.mem_cons] at hin;rcases hin with hin|hin
     ·rw [hin] at h;simp at h
     ·split at hin
      ·simp at hin;rw [hin] at h;simp at h
      ·cases hin
  ·intro e;rw [if_pos e] at hin;simp at hin;rw [hin]
 by_cases e:q.1=1
 ·rw [decide_eq_true (hm2.2 e)];unfold right at hr;rw [if_pos e] at hr;simp only [Bool.and_eq_true,qmx,decide_eq_true_eq] at hr;refine decide_eq_false fun h=> ?_
  rw [h] at hr;exact absurd hr.1.1 (by decide)
 ·rw [decide_eq_false (fun h=>e (hm2.1 h))];unfold right at hr;rw [if_neg e,if_neg (by omega)] at hr;simp only [Bool.and_eq_true,decide_eq_true_eq] at hr;exact decide_eq_true hr.2.1
theorem yea [Dfr] (l:List Nd) (how:Int) (hl:l.length≤500000) (h0:l≠[]) (h2:how=2∨how=3→(zea l).length=2) (h10:(ix l 0).1=10→(zea l).length=2∧(how=4∨how=5)):qbq l how=some (zkz l how):=by
 have hpos:0<l.length:=List.length_pos_iff.2 h0;have hix:zaa 0 l.length=true:=zam hpos;rw [qzn,zit l (by omega)];unfold zkz;simp only [Option.bind_some,qzo];by_cases e2:how=2
 ·subst e2;have:=h2 (.inl rfl);rw [show ((2:Int)==2)=true from rfl,if_pos rfl,cond_true,this];rfl
 by_cases e3:how=3
 ·subst e3;have:=h2 (.inr rfl);rw [if_neg e2,if_pos rfl,this];rfl
 rw [if_neg e2,if_neg e3];simp only [show (how==2)=false by rw [beq_eq_false_iff_ne];exact e2,show (how==3)=false by rw [beq_eq_false_iff_ne];exact e3,cond_false,hix,cond_true];have hone:zhp (14,ByteArray.empty,3) [(2,ByteArray.empty,0)]=some [(14,ByteArray.empty,3),(2,ByteArray.empty,0)]:=zxj _ _ (by decide);by_cases e10:(ix l 0).1=10
 ·obtain ⟨hk,h45⟩:=h10 e10;obtain ⟨a,b,hab⟩:∃a b,zea l=[a,b]:=by
   match h:zea l,hk with
   |[a,b],_=>exact ⟨a,b,rfl⟩
  have hfl:=(qic l).1;rw [hab] at hfl;simp only [List.flatten_cons,List.flatten_nil,List.append_nil,List.length_append] at hfl;rw [show ((ix l 0).1==10)=true by rw [e10];rfl,if_pos e10,if_pos e10,hab];rcases h45 with rfl|rfl
  ·rw [if_neg (by decide)];have:zbd (12,ByteArray.empty,0) (ix [a,b] 0) (ix [a,b] 1)=some ((12,ByteArray.empty,0)::(a++b)):=qqv _ _ _ (by show a.length≤_;omega) (by show b.length≤_;omega);rw [show ((4:Int)==4)=true from rfl];simp only [cond_true,show zaa 0 [a,b].length=true from rfl,show zaa 1 [a,b].length=true from rfl,this,Option.bind_some];simp
  ·rw [if_pos rfl,show ((5:Int)==4)=false from rfl,show ((5:Int)==5)=true from rfl];simp only [cond_true,cond_false,hone,Option.bind_some]
 ·rw [show ((ix l 0).1==10)=false by rw [beq_eq_false_iff_ne];exact e10,if_neg e10,if_neg e10];by_cases e5:how=5
  ·subst e5;rw [if_pos rfl];rfl
  ·rw [if_neg e5,show (how==5)=false by rw [beq_eq_false_iff_ne];exact e5];cases (how==4)<;>rfl
theorem yoy [Dfr] {l:List Nd} {how:Int} (hn:∀n∈l,n.2.1.size≤9223372036854775807) (h2:how=2∨how=3→(zea l).length=2):∀n∈zkz l how,n.2.1.size≤9223372036854775807:=by
 have hk:∀n∈(zea l).flatten,n∈l:=fun n h=>by
  unfold zea at h;cases hp:P l with
  |none=>rw [hp] at h;cases h
  |some q=>
   obtain ⟨t,r⟩:=q;rw [hp] at h;rw [(xhv.1 hp).2];refine List.mem_append_left _ ?_;cases t with
   |n0 n'=>simp [T.kids] at h
   |n1 n' a=>simp [T.kids,T.row] at h ⊢;exact .inr h
   |n2 n' a b=>simp [T.kids,T.row] at h ⊢;exact .inr h
 have hi:∀i:Nat,i<(zea l).length→∀n∈ix (zea l) (i:Int),n∈l:=fun i hi n h=>hk n (by rw [qar hi] at h;exact List.mem_flatten.2 ⟨_,List.getElem_mem hi,h⟩)
 intro n h;unfold zkz at h;split at h
 ·rename_i e;exact hn n (hi 0 (by rw [h2 (.inl e)];omega) n h)
 ·split at h
  ·rename_i e;exact hn n (hi 1 (by rw [h2 (.inr e)];omega) n h)
  ·split at h
   ·split at h
    ·rcases List.mem_cons.1 h with h|h
     ·rw [h];decide
     ·rw [List.mem_singleton.1 h];decide
    ·rw [List.mem_singleton.1 h];decide
   ·split at h
    ·rcases List.mem_cons.1 h with h|h
     ·rw [h];decide
     ·exact hn n (hk n h)
    ·rw [List.mem_singleton.1 h];decide
theorem qlm [Dfr] [zcd] [zdi] [zji] (l:List Nd) (m:Mv) (hl:l.length≤400000) (hn:∀n∈l,n.2.1.size≤9223372036854775807):zqj l m=some (zdc l m):=by
 rw [qzp,yoh l m (by omega) hn,Option.bind_some];by_cases hm:m∈enL l
 ·obtain ⟨z1,_,_,z4⟩:=qao hm;obtain ⟨hs,t,k0,ht,hm1,hk0,hkw,hw,hin⟩:=xby hm;obtain ⟨k,S,r,h1,h2,h3,h4,h5,h6⟩:=yvp hm;obtain rfl:k0=k:=by omega
  have hk2:m.2=2∨m.2=3→(zea (l.drop k0)).length=2:=fun h=>by rw [h4];exact qib h3 (h6 h)
  have hx:ix (l.drop k0) 0=l.getD k0 default:=by rw [h4,←h5];cases S<;>rfl
  have hxl:ix l (k0:Int)=l.getD k0 default:=by rw [qar hk0,List.getD_eq_getElem?_getD,List.getElem?_eq_getElem hk0];rfl
  have h10:(ix (l.drop k0) 0).1=10→(zea (l.drop k0)).length=2∧(m.2=4∨m.2=5):=fun h=>by
   rw [hx] at h;refine ⟨?_,?_⟩
   ·rw [h4];unfold zea;rw [qfr h3];rw [←h5] at h;cases S with
    |n0 n=>have:=ar0 h3;simp only [T.hd] at h;omega
    |n1 n a=>have:=ar1 h3.1;simp only [T.hd] at h;omega
    |n2 n a b=>rfl
   ·unfold zic at hin;rw [if_neg (by omega),if_neg (by omega)] at hin;rcases List.mem_cons.1 hin with hin|hin
    ·left;rw [hin]
    ·split at hin
     ·right;simp at hin;rw [hin]
     ·cases hin
  have hc:cut l (k0:Int) (l.length:Int)=l.drop k0:=by rw [zpg];simp
  have hdl:(l.drop k0).length=l.length-k0:=List.length_drop;have hne:l.drop k0≠[]:=fun h=>by rw [h] at hdl;simp at hdl;omega
  have hml:=yba (l.drop k0) m.2 hk2;have hpl:=yar l (k0:Int) (zkz (l.drop k0) m.2);have hnp:∀n∈putR l (k0:Int) (zkz (l.drop k0) m.2),n.2.1.size≤9223372036854775807:=by
   have hmn:∀n∈zkz (l.drop k0) m.2,n.2.1.size≤9223372036854775807:=fun n hn'=>yoy (fun q hq=>hn q (List.mem_of_mem_drop hq)) hk2 n hn'
   intro n hn';unfold putR at hn';split at hn'
   ·rcases List.mem_append.1 hn' with h|h
    ·rcases List.mem_append.1 h with h|h
     ·exact hn n (List.mem_of_mem_take h)
     ·exact hmn n h
    ·exact hn n (List.mem_of_mem_drop h)
   ·exact hn n hn'
  have hset:=qdd _ (show (putR l (k0:Int) (zkz (l.drop k0) m.2)).length≤4611686018427387904 by omega) hnp;unfold zdc at z4 ⊢;rw [if_pos hm] at z4 ⊢;rw [hm1,Int.toNat_natCast] at z4;rw [decide_eq_true hm,hm1,Int.toNat_natCast];simp only [Bool.not_true,cond_false,zoq hk0,zep (show k0≤l.length by omega) (Nat.le_refl _),hc,cond_true,yea (l.drop k0) m.2 (by omega) hne hk2 h10,Option.bind_some,yig l (k0:Int) _ (show l.length≤1000000 by omega) (show (zkz (l.drop k0) m.2).length≤1000000 by omega),hset];by_cases e:m.2=1
  ·rw [show (m.2==1)=true by rw [e];rfl,cond_true,hxl,hx]
  ·rw [show (m.2==1)=false by rw [beq_eq_false_iff_ne];exact e,cond_false];rw [decide_eq_false e] at z4;have h7:(ix (l.drop k0) 0).2.1=⟨#[]⟩:=of_decide_eq_true (z4.trans rfl);rw [h7]
 ·rw [decide_eq_false hm];unfold zdc;rw [if_neg hm];rfl
end Go.Proofs.YtjolkdjkhekbnaaGreatDoor.Sv
