/- step.Put: its contract, by hand. -/
import Derived.Test.YtjolkdjkhekbnaaGreatDoorSvTop
import Derived.Test.YtjolkdjkhekbnaaGreatDoorSvK
import Derived.Test.YtjolkdjkhekbnaaGreatDoorW03r
import Derived.WalkKit
import Derived.Carry
import Derived.BigCall
import Derived.Laws.CopyRow
import Derived.Laws.MakeOwn
namespace Go.Proofs.YtjolkdjkhekbnaaGreatDoor.Sv
open Go Go.Sv Go.Proofs Go.Rd Go.RowKit
set_option maxRecDepth 100000
attribute [local go_sem] Oper.semAt_some
structure Els (F:Nat→Prop) (w:World) (t:Ty) (ys:List t.den) (news:List Value):Prop where
 len:news.length=ys.length*t.sz
 one:∀v∈news,v.oneCell'=true
 el:∀i x,ys[i]? =some x→∃ds,Cl F w t x ds∧∀j z,ds[j]? =some z→news[i*t.sz+j]? =some z
theorem zuy [Dfr] {P:Program} {dT sT ty e:TypeId} {t:Ty} {w:World} {F:Nat→Prop} {ys:List t.den} {v:Value} (hu:P.underlying dT=some (.slice e)) (hs:(P.info? e).map (·.size)=some t.sz) (hv:Cl F w (.slice e t) ys [v]) :
 ∃news,Els F w t ys news∧∀(W:World),(∀b,b<w.heap.size→W.heap[b]? =w.heap[b]?)→∀(g o dLen dCap tid:Nat) (cur:Array Value),W.heap[g]? =some (.cells cur tid (0,0))→ys.length≤dLen→o+ys.length*t.sz≤cur.size→
  (Builtin.copy_ #[dT,sT] ty #[.slice (some ⟨g,o,none⟩) dLen dCap,v]).run P W= .ok (goInt ys.length) (W.setRow g (cur.toList.take o++news++cur.toList.drop (o+news.length)).toArray):=by
 rw [Cl] at hv
 obtain ⟨A,c,hvv,hc,hrow⟩:=hv
 obtain rfl:v= .slice A ys.length c:=by simpa using hvv
 cases hq:P.info? e with
 |none=>simp [hq] at hs
 |some i =>
  have hi:i.size=t.sz:=by simpa [hq] using hs
  rcases hrow with rfl|⟨a,rfl,hF,hrow⟩
  ·refine ⟨[],⟨by simp,fun v h=>(by cases h),fun i x h=>(by cases h)⟩,fun W hW g o dLen dCap tid cur hg hle hfit=> ?_⟩
   have hst:=run_storeCells_at P g o tid [] 0 cur W hg (by simpa using hfit) (fun v h=>by cases h)
   have hl0:∀a:Addr,(loadCells a 0).run P W= .ok #[] W:=fun a=>by
    have:=run_loadCells_list (P:=P) W a [] (fun j v h=>by simp at h)
    simpa using this
   cases A with
   |none=>simp [Builtin.copy_,run_underlying hu,Builtin.lenOf,Builtin.firstCells,sizeOf,typeInfo,hq,hi,hst]
   |some a=>simp [Builtin.copy_,run_underlying hu,Builtin.lenOf,Builtin.firstCells,sizeOf,typeInfo,hq,hi,hst,hl0]
  ·obtain ⟨news,hn⟩:=ycx hrow
   refine ⟨news,⟨hn.len,hn.one,hn.el⟩,fun W hW g o dLen dCap tid cur hg hle hfit=> ?_⟩
   have hmin:Nat.min ys.length dLen=ys.length:=Nat.min_eq_left hle
   have hl:=run_loadCells_list (P:=P) W a news (fun j v hj=>by
    have h1:=hn.cell j v hj
    have h2:=World.block_lt_of_cell? w _ h1
    rw [←h1]
    exact World.cell?_of_block (hW _ h2))
   rw [hn.len] at hl
   have hst:=run_storeCells_at P g o tid news 0 cur W hg (by rw [hn.len];simpa using hfit) hn.one
   simp [Builtin.copy_,run_underlying hu,Builtin.lenOf,Builtin.firstCells,sizeOf,typeInfo,hq,hi,hmin,hl,hst]
abbrev NdY:Ty:=.pair (.int .i64) (.pair .str (.int .i64))
abbrev rowT:Nat:=22
theorem qow [Dfr] [zcx] {F:Nat→Prop} {w:World} {xs:List Nd} {A:Option Addr} {cap:Nat} {lo hi:Option Value} {l h:Int} (hv:Cl F w (.slice 68 NdY) xs [.slice A xs.length cap])
 (hl:qxb lo l 0) (hh:qxb hi h xs.length) (h0:0≤l) (h1:l≤h) (h2:h≤(xs.length:Int)) :
 ∃v,(∀W,(Instr.sliceAt rowT (.slice A xs.length cap) lo hi none).run Tryz.prog W= .ok v W)∧Cl F w (.slice 68 NdY) (cut xs l h) [v]:=by
 have hc:xs.length≤cap:=by
  have:=hv
  rw [Cl] at this
  obtain ⟨a,c,e,hc,_⟩:=this
  simp only [List.cons.injEq,Value.slice.injEq,and_true,true_and] at e
  omega
 have ht:=tab.types.ti rowT _ rfl
 obtain ⟨ie,hie,hsz,_⟩:=(tab.types.ti 68 _ rfl).info
 obtain ⟨M,hr,hM,hM2⟩:=zss ht rfl hie A hl hh (.inl rfl) h0 h1 h2 hc w
 have hMc:M=cap:=by
  rcases hM2 with ⟨_,h⟩|⟨h,_⟩
  ·exact h
  ·exact absurd rfl h
 refine ⟨_,fun W=> ?_,Cl.cut (by simp [zcc];omega) hv hM⟩
 obtain ⟨M',hr',_,hM2'⟩:=zss ht rfl hie A hl hh (.inl rfl) h0 h1 h2 hc W
 have hMc':M'=cap:=by
  rcases hM2' with ⟨_,h⟩|⟨h,_⟩
  ·exact h
  ·exact absurd rfl h
 rw [hr',hMc',←hMc,hsz]
 rfl
theorem yhg [Dfr] [zcx] (g T k:Nat) (hk:k≤T) (W:World):(Instr.sliceAt rowT (.slice (some ⟨g,0,none⟩) T T) (some (.int .i64 (k:Int))) none none).run Tryz.prog W= .ok (.slice (if T=k then some ⟨g,0,none⟩ else some ⟨g,k*3,none⟩) (T-k) (T-k)) W:=by
 have ht:=tab.types.ti rowT _ rfl
 obtain ⟨ie,hie,hsz,_⟩:=(tab.types.ti 68 _ rfl).info
 obtain ⟨M,hr,hM,hM2⟩:=zss ht rfl hie (some ⟨g,0,none⟩) (lo:=some (.int .i64 (k:Int))) (hi:=none) (mx:=none) (l:=(k:Int)) (h:=(T:Int)) (len:=T) (cap:=T) (.inr ⟨_,rfl⟩) (.inl ⟨rfl,rfl⟩) (.inl rfl) (by omega) (by omega) (by omega) (Nat.le_refl _) W
 have hMc:M=T:=by
  rcases hM2 with ⟨_,h⟩|⟨h,_⟩
  ·exact h
  ·exact absurd rfl h
 subst hMc
 rw [hr,hsz]
 simp only [Int.toNat_natCast,Option.map_some]
 congr 3
 rw [zfk,Nat.zero_add]
theorem qte [Dfr] {P:Program} {dT sT ty g T k tid:Nat} {W:World} {cur:Array Value} {n:Nat} {v:Value} {news:List Value} (hg:W.heap[g]? =some (.cells cur tid (0,0))) (hc:cur.size=T*3) (hn:news.length=n*3) (hk:k≤T) (hle:n≤T-k)
 (h:∀(o dLen dCap tid:Nat) (cur:Array Value),W.heap[g]? =some (.cells cur tid (0,0))→n≤dLen→o+n*3≤cur.size→
  (Builtin.copy_ #[dT,sT] ty #[.slice (some ⟨g,o,none⟩) dLen dCap,v]).run P W= .ok (goInt n) (W.setRow g (cur.toList.take o++news++cur.toList.drop (o+news.length)).toArray)) :
 (Builtin.copy_ #[dT,sT] ty #[.slice (if T=k then some ⟨g,0,none⟩ else some ⟨g,k*3,none⟩) (T-k) (T-k),v]).run P W= .ok (goInt n) (W.setRow g (cur.toList.take (k*3)++news++cur.toList.drop (k*3+news.length)).toArray):=by
 by_cases e:T=k
 ·rw [if_pos e]
  have h0:n=0:=by omega
  subst h0
  have hnil:news=[]:=List.eq_nil_of_length_eq_zero (by omega)
  subst hnil
  rw [h 0 _ _ tid cur hg (Nat.zero_le _) (by omega)]
  simp
 ·rw [if_neg e]
  exact h (k*3) _ _ tid cur hg hle (by omega)
theorem three [Dfr] {α:Type} (Z a b c:List α) (h:Z.length=a.length+b.length+c.length) :
 let L1:=Z.take 0++a++Z.drop (0+a.length)
 let L2:=L1.take a.length++b++L1.drop (a.length+b.length)
 L2.take (a.length+b.length)++c++L2.drop (a.length+b.length+c.length)=a++b++c:=by
 intro L1 L2
 have h1:L1=a++Z.drop a.length:=by simp [L1]
 have h2:L2=a++b++Z.drop (a.length+b.length):=by
  simp only [L2,h1]
  rw [List.take_left' rfl,←List.drop_drop,List.drop_left' rfl,List.drop_drop]
 rw [h2,List.take_left' (by simp),List.drop_eq_nil_of_le (by simp;omega),List.append_nil]
theorem qkp [Dfr] [zcx] {l:List Nd} {r:Int} (h:zja l=some r) {W:World} {F:Nat→Prop} {v:Value} (hF:∀b,F b→b<W.heap.size) (hg:zcr E F W) (hc:Cl F W (.slice 68 NdY) l [v]) :
 Calls Tryz.prog 128 #[v] W fun e w'=>e= .returned (.int .i64 r)∧Kept (fun _=>False) W w':=by
 obtain ⟨q,hq⟩:=((qqx l).iff _).1 h
 obtain ⟨hf,hct⟩:=zkt qvy q 128 l r hq
 have hFr:∀b,Fr.F ⟨fun _=>none,fun _=>none⟩ F b→F b:=fun b h=>by
  rcases h with h|⟨d,h⟩|⟨n,l,h⟩
  ·exact h
  ·cases h
  ·cases h
 have hst:Step F (Fr.F ⟨fun _=>none,fun _=>none⟩ F) W W:=⟨fun _ _ _=>rfl,fun b h=>.inl (hFr b h)⟩
 refine (hct W F (fun _=>False) ⟨fun _=>none,fun _=>none⟩ [v] ⟨.cons (Cl.step hst hc) .nil,fun _=>rfl,fun n b l h=>(by cases h),fun n n' b l l' h=>(by cases h),fun b h=>⟨hF b h,fun h=>h⟩,hg.step hst⟩).mono ?_
 rintro e w' ⟨v,rfl,hk,hr⟩
 obtain ⟨T,hT⟩:=hr 0
 have hv:v= .int .i64 r:=hT.rel
 exact ⟨by rw [hv],hk⟩
theorem qdu [Dfr] [zcx] (n:Nat) (hn:n≤5000000):∃Z:Array Value,Z.size=n*3∧∀W:World,(Instr.makeSlice rowT (.int .i64 (n:Int)) (.int .i64 (n:Int))).run Tryz.prog W= .ok (.slice (some ⟨W.heap.size,0,none⟩) n n) (W.alloc (.cells Z 68)):=by
 obtain ⟨ie,hie,hsz,hb,z,hz,hzs,_⟩:=(tab.types.ti 68 _ rfl).info
 refine ⟨madeCells z.cells (n*3),by simp [madeCells],fun W=> ?_⟩
 have h:=run_makeSlice W (P:=Tryz.prog) rowT 68 ie z Tryz.underlying22 hie hz .i64 .i64 (n:Int) (n:Int) (by omega) (Int.le_refl _) (by rw [hsz];show (n:Int).toNat*3≤_;omega) (by rw [hb];show ((32:Nat):Int)*(n:Int)≤_;omega) (by omega)
 rw [hsz] at h
 exact h
theorem Els.append [Dfr] {F:Nat→Prop} {w:World} {t:Ty} {xs ys:List t.den} {a b:List Value} (ha:Els F w t xs a) (hb:Els F w t ys b):Els F w t (xs++ys) (a++b):=by
 refine ⟨by rw [List.length_append,List.length_append,ha.len,hb.len,Nat.add_mul],fun v hv=> ?_,fun i x hi=> ?_⟩
 ·rcases List.mem_append.1 hv with h|h
  ·exact ha.one v h
  ·exact hb.one v h
 ·rw [List.getElem?_append] at hi
  split at hi
  ·rename_i hlt
   obtain ⟨ds,h1,h2⟩:=ha.el i x hi
   refine ⟨ds,h1,fun j z hj=> ?_⟩
   have:=h2 j z hj
   have hl:=(List.getElem?_eq_some_iff.1 this).1
   rw [List.getElem?_append_left hl]
   exact this
  ·rename_i hge
   obtain ⟨ds,h1,h2⟩:=hb.el _ x hi
   refine ⟨ds,h1,fun j z hj=> ?_⟩
   have:=h2 j z hj
   have hm:xs.length*t.sz≤i*t.sz:=Nat.mul_le_mul_right _ (by omega)
   rw [List.getElem?_append_right (by rw [ha.len];omega),ha.len,←this]
   congr 1
   rw [Nat.sub_mul];omega
def qto (F:Nat→Prop) (w:World) (out:List Nd) (e:Ending) (w':World):Prop :=
 ∃g,∃cur:Array Value,e= .returned (.slice (some ⟨g,0,none⟩) out.length out.length)∧Kept (fun _=>False) w w'∧w.heap.size≤g∧w'.heap[g]? =some (.cells cur 68 (0,0))∧Els F w NdY out cur.toList
end Go.Proofs.YtjolkdjkhekbnaaGreatDoor.Sv
