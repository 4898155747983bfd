/- plot.spots$1: what it hands on. -/
import Derived.Test.YtjolkdjkhekbnaaGreatDoorX11
import Derived.Test.YtjolkdjkhekbnaaGreatDoorM12
import Derived.Test.YtjolkdjkhekbnaaGreatDoorSvH0
namespace Go.Proofs.YtjolkdjkhekbnaaGreatDoor.Sv
open Go Go.Sv Go.Proofs Go.Rd Go.RowKit Go.Shelf
set_option maxRecDepth 100000
attribute [local go_sem] Oper.semAt_some
abbrev NdT:Ty:=.pair (.int .i64) (.pair .str (.int .i64))
def yvt [Dfr] (w:World) (l:List Nd) (s:Option Addr) (len cap:Nat):Prop :=
 ∀W,Kept (fun b=>w.heap.size≤b) w W→zcr E (fun _=>False) W∧Cl (fun _=>False) W (.slice 68 NdT) l [.slice s len cap]
theorem step0 [Dfr] (W:World):Step (fun _=>False) (Fr.F ⟨fun _=>none,fun _=>none⟩ (fun _=>False)) W W :=
 ⟨fun _ _ _=>rfl,fun b h=>by
  rcases h with h|⟨d,h⟩|⟨n,l,h⟩
  ·exact h.elim
  ·cases h
  ·cases h⟩
theorem yfh [Dfr] [zcx] {n:Nat} {l:List Nd} {b:Bool} (h:zys l=some b) {W:World} {s:Option Addr} {len cap:Nat} (hg:zcr E (fun _=>False) W) (hc:Cl (fun _=>False) W (.slice 68 NdT) l [.slice s len cap]) :
 CallsIn Fence.wide n Tryz.prog 224 #[.slice s len cap] W fun e w'=>e= .returned (.bool b)∧Kept (fun _=>False) W w':=by
 obtain ⟨k,hk⟩:=((qro l).iff _).1 h
 obtain ⟨hf,hct⟩:=zkt qvy k 224 l b hk
 rw [callsIn_wide]
 have hst:=step0 W
 refine (hct W (fun _=>False) (fun _=>False) ⟨fun _=>none,fun _=>none⟩ [.slice s len cap] ⟨.cons (Cl.step hst hc) .nil,fun _=>rfl,fun n b l h=>(by cases h),fun n n' b l l' h=>(by cases h),fun b h=>h.elim,hg.step hst⟩).mono ?_
 rintro e w' ⟨v,rfl,hk,hr⟩
 obtain ⟨T,hT⟩:=hr 0
 have hv:v= .bool b:=hT.rel
 exact ⟨by rw [hv],hk⟩
theorem qig [Dfr] [zcx] {n:Nat} {k r:Int} (h:zjb k=some r) {W:World} (hg:zcr E (fun _=>False) W) :
 CallsIn Fence.wide n Tryz.prog 177 #[.int .i64 k] W fun e w'=>e= .returned (.int .i64 r)∧Kept (fun _=>False) W w':=by
 obtain ⟨q,hq⟩:=((qnt k).iff _).1 h
 obtain ⟨hf,hct⟩:=zkt qvy q 177 k r hq
 rw [callsIn_wide]
 have hst:=step0 W
 refine (hct W (fun _=>False) (fun _=>False) ⟨fun _=>none,fun _=>none⟩ [.int .i64 k] ⟨.cons rfl .nil,fun _=>rfl,fun n b l h=>(by cases h),fun n n' b l l' h=>(by cases h),fun b h=>h.elim,hg.step hst⟩).mono ?_
 rintro e w' ⟨v,rfl,hk,hr⟩
 obtain ⟨T,hT⟩:=hr 0
 have hv:v= .int .i64 r:=hT.rel
 exact ⟨by rw [hv],hk⟩
def zli (S:Stk):List Value:=S.reverse.flatMap fun x=>[.int .i64 (x.1:Int),.int .i64 (x.2:Int)]
theorem zkz [Dfr]:∀S:Stk,(zli S).length=S.length*2
 |[]=>rfl
 |x::r=>by
  have:zli (x::r)=zli r++[.int .i64 (x.1:Int),.int .i64 (x.2:Int)]:=by simp [zli]
  rw [this,List.length_append,zkz r]
  simp only [List.length_cons,List.length_nil];omega
theorem qxg [Dfr] {w:World} {base:Nat} {e:TypeId} {g cap:Nat} {z:Nat×Nat} {r:Stk} (h:w.ownsRow base e 2 (.slice (some ⟨g,0,none⟩) (r.length+1) cap) (r.length+1) (zli (z::r))) :
 w.cell? {block:=g,off:=r.length*2+1}=some (.int .i64 (z.2:Int)):=by
 have e:zli (z::r)=zli r++[.int .i64 (z.1:Int),.int .i64 (z.2:Int)]:=by simp [zli]
 have:=zme h (r.length*2+1) (.int .i64 (z.2:Int)) (by rw [e,List.getElem?_append_right (by rw [zkz];omega),zkz];simp)
 have ea:(⟨g,0,none⟩:Addr).add (r.length*2+1)={block:=g,off:=r.length*2+1}:=by
  unfold Addr.add
  rw [if_neg (by omega),Nat.zero_add]
 rwa [ea] at this
theorem yrm [Dfr] {w:World} {base:Nat} {e:TypeId} {size g cap n:Nat} {xs ys:List Value} (hl:xs.length=n*size) (h:w.ownsRow base e size (.slice (some ⟨g,0,none⟩) (n+1) cap) (n+1) (xs++ys)) :
 w.ownsRow base e size (.slice (some ⟨g,0,none⟩) n cap) n xs:=by
 rcases h.2 with ⟨h0,_⟩|⟨g',cap',cur,hv,hb,hh,hc,hm,hs,ht⟩
 ·cases h0
 ·cases hv
  refine ⟨hl,.inr ⟨g,cap,cur,rfl,hb,hh,by omega,hm,hs,?_⟩⟩
  have h1:=congrArg (List.take (n*size)) ht
  rw [List.take_take,Nat.min_eq_left (Nat.mul_le_mul_right _ (Nat.le_succ n)),←hl,List.take_left] at h1
  rw [←hl];exact h1
theorem yrl [Dfr] {w:World} {base:Nat} {e:TypeId} {g cap:Nat} {z:Nat×Nat} {r:Stk} (h:w.ownsRow base e 2 (.slice (some ⟨g,0,none⟩) (r.length+1) cap) (r.length+1) (zli (z::r))) (m:Nat) :
 (w.setCell {block:=g,off:=r.length*2+1} (.int .i64 (m:Int))).ownsRow base e 2 (.slice (some ⟨g,0,none⟩) (r.length+1) cap) (r.length+1) (zli ((z.1,m)::r)):=by
 have e1:∀x:Nat×Nat,zli (x::r)=zli r++[.int .i64 (x.1:Int),.int .i64 (x.2:Int)]:=fun x=>by simp [zli]
 rcases h.2 with ⟨h0,_⟩|⟨g',cap',cur,hv,hb,hh,hc,hm,hs,ht⟩
 ·cases h0
 ·cases hv
  refine ⟨by rw [zkz];rfl,.inr ⟨g,cap,cur.setIfInBounds (r.length*2+1) (.int .i64 (m:Int)),rfl,hb,?_,hc,hm,by simp [hs],?_⟩⟩
  ·unfold World.setCell
   simp only [Array.getElem?_modify,if_true,hh]
   simp
  ·have h2:=zkz r
   rw [Array.toList_setIfInBounds,List.take_set,ht,e1,e1,List.set_append_right _ _ (by omega),h2]
   rw [show r.length*2+1-r.length*2=1 by omega];rfl
theorem yck [Dfr] {w:World} {base:Nat} {e:TypeId} {g cap:Nat} {z:Nat×Nat} {r:Stk} (h:w.ownsRow base e 2 (.slice (some ⟨g,0,none⟩) (r.length+1) cap) (r.length+1) (zli (z::r))) :
 w.cell? {block:=g,off:=r.length*2}=some (.int .i64 (z.1:Int)):=by
 have e:zli (z::r)=zli r++[.int .i64 (z.1:Int),.int .i64 (z.2:Int)]:=by simp [zli]
 have:=zme h (r.length*2) (.int .i64 (z.1:Int)) (by rw [e,List.getElem?_append_right (by rw [zkz];omega),zkz];simp)
 have ea:(⟨g,0,none⟩:Addr).add (r.length*2)={block:=g,off:=r.length*2}:=by
  unfold Addr.add
  split
  ·rename_i h;rw [h]
  ·rw [Nat.zero_add]
 rwa [ea] at this
theorem yku [Dfr] {w:World} {base:Nat} {e:TypeId} {size g cap n:Nat} {xs:List Value} (h:w.ownsRow base e size (.slice (some ⟨g,0,none⟩) (n+1) cap) (n+1) xs) (j:Nat):w.frozen? {block:=g,off:=j}=false:=by
 rcases h.2 with ⟨h0,_⟩|⟨g',cap',cur,hv,hb,hh,hc,hm,hs,ht⟩
 ·cases h0
 ·cases hv
  simp [World.frozen?,hh]
theorem qcm [Dfr] {w:World} {b o:Nat} {v:Value}:Kept (fun k=>k=b) w (w.setCell {block:=b,off:=o} v) :=
 ⟨rfl,rfl,rfl,by simp [World.setCell],fun k _ hk=>by simp [World.setCell,Array.getElem?_modify,Ne.symm hk],Nat.le_refl _⟩
theorem yag [Dfr] {W:World} {l:List Nd} {s:Option Addr} {len cap:Nat} (h:Cl (fun _=>False) W (.slice 68 NdT) l [.slice s len cap]) {k:Nat} (hk:k<l.length) :
 ∃a,s=some a∧W.cell? (a.add (k*3))=some (.int .i64 l[k].1)∧W.cell? {block:=(a.add (k*3)).block,off:=(a.add (k*3)).off+1}=some (.string l[k].2.1)∧W.cell? {block:=(a.add (k*3)).block,off:=(a.add (k*3)).off+2}=some (.int .i64 l[k].2.2):=by
 rw [Cl] at h
 obtain ⟨A,c,e,_,h⟩:=h
 cases e
 rcases h with h|⟨a,rfl,_,h⟩
 ·rw [h] at hk;exact absurd hk (by simp)
 ·obtain ⟨ds,hd,hc⟩:=h k _ (List.getElem?_eq_getElem hk)
  obtain ⟨c1,c2,rfl,h1,h2⟩:=hd
  obtain ⟨c3,c4,rfl,h3,h4⟩:=h2
  have h1:c1=[.int .i64 l[k].1]:=h1
  have h3:c3=[.string l[k].2.1]:=h3
  have h4:c4=[.int .i64 l[k].2.2]:=h4
  subst h1 h3 h4
  have ea:∀j,0<j→a.add (k*3+j)={block:=(a.add (k*3)).block,off:=(a.add (k*3)).off+j}:=fun j hj=>by
   unfold Addr.add
   rw [if_neg (by omega)]
   split
   ·rename_i h;rw [h];simp
   ·simp [Nat.add_assoc]
  refine ⟨a,rfl,hc 0 _ rfl,?_,?_⟩
  ·rw [←ea 1 (by omega)];exact hc 1 _ rfl
  ·rw [←ea 2 (by omega)];exact hc 2 _ rfl
theorem yds [Dfr] {w:World} {base:Nat} {e:TypeId} {size:Nat} {v:Value} {n:Nat} {xs:List Value} (h:w.ownsRow base e size v n xs):∃cap ob,v= .slice ob n cap:=by
 obtain ⟨_,h⟩:=h
 rcases h with ⟨rfl,rfl⟩|⟨g,cap,cur,rfl,_⟩
 ·exact ⟨_,_,rfl⟩
 ·exact ⟨_,_,rfl⟩
theorem qej [Dfr] {k n:Nat} {p:Nat→Int} {x:Spot} (hk:k<n) (hp:p k=x.2.1) (hx:x.1=(k:Int)):ysOf k p++[x].map qfc <+: ysOf n p:=by
 have e:ysOf k p++[x].map qfc=ysOf (k+1) p:=by
  rw [zxl]
  show _++[(x.1,x.2.1)]=_
  rw [hx,hp]
 rw [e]
 unfold ysOf
 refine List.IsPrefix.map _ ?_
 exact List.prefix_iff_eq_take.2 (by rw [List.length_range,List.take_range,Nat.min_eq_left (by omega)])
theorem ynt [Dfr] {m m':Nat} {P:Program} {l:Nat} {f:FuncId} {tmps:Array Value} {assign body:Code} {w:World} {R:Ending→World→Prop}
 (h:RoundIn Fence.wide m P l f tmps assign body w R):RoundIn Fence.wide m' P l f tmps assign body w R:=⟨h.1,fun c cs _=>h.2 c cs (fun d h=>by cases h)⟩
theorem _root_.Go.World.ownsRow.qwu [Dfr] {w:World} {base:Nat} {e:TypeId} {size:Nat} {v:Value} {n:Nat} {xs:List Value} (h:w.ownsRow base e size v n xs) {g:Nat} (hg:v.ownBlock=some g):base≤g:=by
 obtain ⟨_,h2⟩:=h
 rcases h2 with ⟨h0,_⟩|⟨g',cap',cur,rfl,hb,_⟩
 ·rw [h0] at hg;cases hg
 ·cases hg;exact hb
theorem _root_.Go.World.ownsRow.ysk [Dfr] {w:World} {base:Nat} {e:TypeId} {size:Nat} {v:Value} {n:Nat} {xs:List Value} (h:w.ownsRow base e size v n xs) {g b:Nat} {cs:Array Value} {t:TypeId} (hg:v.ownBlock=some g) (hb:w.heap[b]? =some (.cells cs t (0,0))) (ht:t≠e):g≠b:=by
 obtain ⟨_,h2⟩:=h
 rcases h2 with ⟨h0,_⟩|⟨g',cap',cur,rfl,_,hh,_⟩
 ·rw [h0] at hg;cases hg
 ·cases hg
  rintro rfl
  rw [hb] at hh
  cases hh
  exact ht rfl
theorem ynj [Dfr] (ars:Nat→Nat) (k:Nat):(decS (stkS ars k)).length≤k:=by
 have:∀S:Stk,(decS S).length=S.length:=fun S=>by cases S<;>rfl
 rw [this]
 have h:∀k,(stkS ars k).length≤k:=by
  intro k
  induction k with
  |zero=>exact Nat.le_refl _
  |succ k ih =>
   show (zpm _ _ _).length≤_
   unfold zpm
   split
   ·rw [List.length_cons,this];omega
   ·have hp:∀S:Stk,(popZ S).length≤S.length:=by
     intro S
     induction S with
     |nil=>exact Nat.le_refl _
     |cons y r ih =>
      unfold popZ
      split
      ·rw [List.length_cons];omega
      ·exact Nat.le_refl _
    have:=hp (decS (stkS ars k))
    rw [‹∀S:Stk,(decS S).length=S.length›] at this
    omega
 exact h k
theorem qli [Dfr] (x:Nat×Nat) (r:Stk):zli (x::r)=zli r++[.int .i64 (x.1:Int),.int .i64 (x.2:Int)]:=by simp [zli]
def sliceLen:Value→Nat
 | .slice _ n _=>n
 |_=>0
set_option maxHeartbeats 4000000 in
theorem yua [Dfr] [zcx] {l:List Nd} (ars:Nat→Nat) (s:Option Addr) (len cap:Nat) (w:World) (hrow:yvt w l s len cap) (hone:zys l=some true) (hl:l.length=len) (hmax:len≤1000000) (har:∀i (h:i<l.length),zjb l[i].1=some (ars i:Int)) (har2:∀i,i<len→ars i≤2) :
 yqn w (ysOf len fun k=>topO (stkS ars k)) s len cap:=by
 intro y bl M J W hw hM hyw hyW hbl hMbl hne hJ hy h0
 refine callsIn_of_wp Tryz.func223 rfl trivial ?_ rfl
 simp only [Tryz.ntmps223,List.size_toArray,List.length_cons,List.length_nil,Nat.reduceAdd,Nat.reduceSub,Array.replicate_succ,Array.replicate_zero,List.push_toArray,List.append_toArray,List.nil_append,List.cons_append]
 have hcell:W.cell? ⟨bl,0,none⟩=some (.slice s len cap):=by simp [World.cell?,hbl]
 gi_wp2_with fail
 refine ⟨trivial,(yfh hone (hrow W hw).1 (hrow W hw).2).mono ?_⟩
 rintro e W2 ⟨rfl,hk2⟩
 have hbl2:=(hk2.block bl (Array.getElem?_eq_some_iff.1 hbl).1 fun h=>h).trans hbl
 have hcell2:W2.cell? ⟨bl,0,none⟩=some (.slice s len cap):=by simp [World.cell?,hbl2]
 gi_wp2_with fail
 gi_loopw [3,4,15] (fun v3 v4 v15 Wr=>∃(k:Nat) (lv:Nat) (pre:List Spot),v15= .int .i64 (k:Int)∧v4= .int .i64 (lv:Int)∧lv≤k∧k≤len∧Wr.ownsRow W.heap.size 220 2 v3 (stkS ars k).length (zli (stkS ars k))∧
  J pre Wr∧pre.map qfc=ysOf k (fun k=>topO (stkS ars k))∧Kept (fun b=>w.heap.size≤b) w Wr∧Kept (fun k=>M k∨k=y∨W.heap.size≤k) W Wr) (fun _ _ v15 _=>len-(intOf v15).toNat)
 case atStart=>exact ⟨0,0,[],rfl,rfl,Nat.le_refl _,Nat.zero_le _,⟨rfl,.inl ⟨rfl,rfl⟩⟩,hJ _ _ _ h0 (hk2.weak fun _ _ h=>h.elim),rfl,hw.trans hk2 fun x h=>h.elim,hk2.weak fun _ _ h=>h.elim⟩
 case round =>
  obtain ⟨k,lv,pre,rfl,rfl,hlv,hkl,hopen,hJp,hpre,hkw,hkW⟩:=hrel
  obtain ⟨wo,rfl⟩:∃wo,wo=wr:=⟨_,rfl⟩
  by_cases hlt:k<len
  ·have hkl':k<l.length:=by omega
   obtain ⟨a,rfl,c0,c1,c2⟩:=yag (hrow wo hkw).2 hkl'
   have hsc:=fun (a:Addr) (re im:Nat) (w:World)=>run_store Tryz.prog w a (.complex .f64 re im) .plain rfl
   have hszW:=hkW.size
   obtain ⟨i1,hi1,hiz1,his1,hib1⟩:=info_parts (P:=Tryz.prog) (e:=220) (z:=.agg #[.int .i64 0,.int .i64 0]) (size:=2) (bytes:=16) (by kernel_rfl)
   cases hS:stkS ars k
   case' nil =>
    rw [hS] at hopen
    obtain ⟨cp,ob,rfl⟩:=yds hopen
    simp only [List.length_nil] at hopen ⊢
    obtain ⟨W1,hW1⟩:∃W1,((wo.alloc (.cells #[.int .i64 l[k].1,.string l[k].2.1,.int .i64 l[k].2.2] 68)).alloc (.cells #[.complex .f64 (floatOfInt .f64 (lv:Int)) (floatOfInt .f64 0),.int .i64 (-1)] 178))=W1:=⟨_,rfl⟩
    have hk1':Kept (fun _=>False) wo W1:=by rw [←hW1];exact (kept_alloc wo _).alloc _
    have hk1:Kept (fun b=>W.heap.size≤b) wo W1:=hk1'.weak fun _ _ h=>h.elim
    have hsz1:W1.heap.size=wo.heap.size+2:=by rw [←hW1];simp
    have hyd:=hy pre ((k:Int),(-1,(floatOfInt .f64 (lv:Int),floatOfInt .f64 0))) W1 (hJ _ _ _ hJp hk1) ?pfx (by omega)
    case pfx =>
     rw [List.map_append,hpre]
     exact qej hlt (by rw [hS];rfl) rfl
    obtain ⟨fn,tm,asg,bdy,hyr,hround⟩:=hyd
    have hpre1:(pre++[((k:Int),((-1:Int),(floatOfInt .f64 (lv:Int),floatOfInt .f64 0)))]).map qfc=ysOf (k+1) (fun k=>topO (stkS ars k)):=by
     rw [List.map_append,hpre,zxl,hS];rfl
    simp only [ycy] at hyr
    generalize pre++[((k:Int),((-1:Int),(floatOfInt .f64 (lv:Int),floatOfInt .f64 0)))]=pre1 at hpre1 hround
    have hb6:W1.heap[wo.heap.size]? =some (.cells #[.int .i64 l[k].1,.string l[k].2.1,.int .i64 l[k].2.2] 68 (0,0)):=by
     rw [←hW1]
     exact (zat _ _ _ (by simp)).trans (World.alloc_heap_new wo _)
    have hb7:W1.heap[wo.heap.size+1]? =some (.cells #[.complex .f64 (floatOfInt .f64 (lv:Int)) (floatOfInt .f64 0),.int .i64 (-1)] 178 (0,0)):=by
     rw [←hW1]
     have:=World.alloc_heap_new (wo.alloc (.cells #[.int .i64 l[k].1,.string l[k].2.1,.int .i64 l[k].2.2] 68)) (.cells #[.complex .f64 (floatOfInt .f64 (lv:Int)) (floatOfInt .f64 0),.int .i64 (-1)] 178)
     rwa [World.size_alloc] at this
    have c70:W1.cell? {block:=wo.heap.size+1,off:=0}=some (.complex .f64 (floatOfInt .f64 (lv:Int)) (floatOfInt .f64 0)):=by simp [World.cell?,hb7]
    have c71:W1.cell? {block:=wo.heap.size+1,off:=1}=some (.int .i64 (-1)):=by simp [World.cell?,hb7]
    have hrow1:W1.ownsRow W.heap.size 220 2 (.slice ob 0 cp) (decS (stkS ars k)).length (zli (decS (stkS ars k))):=by
     rw [hS]
     exact zex hopen hk1' fun _ _ h=>h
    gi_wp2_with fail
   case' cons x r =>
    obtain ⟨hs1,hs2,hs3⟩:=qqb ars k fun j hj=>har2 j (by omega)
    have hx2:0<x.2:=hs3 x r hS
    have hx1:x.1<k∧x.2≤2:=hs1 x (by rw [hS];exact List.mem_cons_self ..)
    rw [hS] at hs2
    rw [List.length_cons] at hs2
    rw [hS,List.length_cons] at hopen
    obtain ⟨g,cp,rfl⟩:=ownsRow_succ hopen
    have hcap0:r.length+1≤cp:=by
     rcases hopen.2 with ⟨h0,_⟩|⟨g',c',cur,hv,_,_,hc,_⟩
     ·cases h0
     ·cases hv;exact hc
    have hgW:W.heap.size≤g:=hopen.qwu rfl
    have hgl:g<wo.heap.size:=by
     rcases hopen.2 with ⟨h0,_⟩|⟨g',c',cur,hv,_,hh,_⟩
     ·cases h0
     ·cases hv;exact (Array.getElem?_eq_some_iff.1 hh).1
    obtain ⟨Wa,hWa⟩:∃Wa,((wo.alloc (.cells #[.int .i64 l[k].1,.string l[k].2.1,.int .i64 l[k].2.2] 68)).alloc (.cells #[.complex .f64 (floatOfInt .f64 (lv:Int)) (floatOfInt .f64 ((r.length:Int)+1)),.int .i64 (-1)] 178))=Wa:=⟨_,rfl⟩
    have hka:Kept (fun _=>False) wo Wa:=by rw [←hWa];exact (kept_alloc wo _).alloc _
    have hsza:Wa.heap.size=wo.heap.size+2:=by rw [←hWa];simp
    have hb6a:Wa.heap[wo.heap.size]? =some (.cells #[.int .i64 l[k].1,.string l[k].2.1,.int .i64 l[k].2.2] 68 (0,0)):=by
     rw [←hWa]
     exact (zat _ _ _ (by simp)).trans (World.alloc_heap_new wo _)
    have hb7a:Wa.heap[wo.heap.size+1]? =some (.cells #[.complex .f64 (floatOfInt .f64 (lv:Int)) (floatOfInt .f64 ((r.length:Int)+1)),.int .i64 (-1)] 178 (0,0)):=by
     rw [←hWa]
     have:=World.alloc_heap_new (wo.alloc (.cells #[.int .i64 l[k].1,.string l[k].2.1,.int .i64 l[k].2.2] 68)) (.cells #[.complex .f64 (floatOfInt .f64 (lv:Int)) (floatOfInt .f64 ((r.length:Int)+1)),.int .i64 (-1)] 178)
     rwa [World.size_alloc] at this
    have ca1:Wa.cell? {block:=wo.heap.size+1,off:=1}=some (.int .i64 (-1)):=by simp [World.cell?,hb7a]
    have fa1:Wa.frozen? {block:=wo.heap.size+1,off:=1}=false:=by simp [World.frozen?,hb7a]
    have hrowa:=zex hopen hka fun _ _ h=>h
    have ca2:=yck hrowa
    obtain ⟨Wb,hWb⟩:∃Wb,Wa.setCell {block:=wo.heap.size+1,off:=1} (.int .i64 (x.1:Int))=Wb:=⟨_,rfl⟩
    have hkb:Kept (fun b=>b=wo.heap.size+1) Wa Wb:=by rw [←hWb];exact qcm
    have hrowb:=zex hrowa hkb fun g' hg' h=>by
     have:g=g':=Option.some.inj hg'
     omega
    have cb1:=qxg hrowb
    have fb1:=yku hrowb (r.length*2+1)
    obtain ⟨W1,hW1⟩:∃W1,Wb.setCell {block:=g,off:=r.length*2+1} (.int .i64 ((x.2:Int)-1))=W1:=⟨_,rfl⟩
    have hkc:Kept (fun b=>b=g) Wb W1:=by rw [←hW1];exact qcm
    have hk1:Kept (fun b=>W.heap.size≤b) wo W1:=((hka.weak fun _ _ h=>h.elim).trans hkb fun x h=>.inr (by omega)).trans hkc fun x h=>.inl (by omega)
    have hszb:=hkb.size
    have hszc:=hkc.size
    have hsz1:wo.heap.size+2≤W1.heap.size:=by omega
    have hrow1:W1.ownsRow W.heap.size 220 2 (.slice (some ⟨g,0,none⟩) (r.length+1) cp) (decS (stkS ars k)).length (zli (decS (stkS ars k))):=by
     rw [hS,←hW1]
     have:=yrl hrowb (x.2-1)
     rw [show ((x.2-1:Nat):Int)=(x.2:Int)-1 by omega] at this
     exact this
    have hb6:W1.heap[wo.heap.size]? =some (.cells #[.int .i64 l[k].1,.string l[k].2.1,.int .i64 l[k].2.2] 68 (0,0)):=(hkc.block _ (by omega) (by omega)).trans ((hkb.block _ (by omega) (by omega)).trans hb6a)
    have hb7b:Wb.heap[wo.heap.size+1]? =some (.cells #[.complex .f64 (floatOfInt .f64 (lv:Int)) (floatOfInt .f64 ((r.length:Int)+1)),.int .i64 (x.1:Int)] 178 (0,0)):=by
     rw [←hWb]
     unfold World.setCell
     simp only [Array.getElem?_modify,if_true,hb7a]
     simp
    have hb7:=(hkc.block _ (by omega) (by omega)).trans hb7b
    have c70:W1.cell? {block:=wo.heap.size+1,off:=0}=some (.complex .f64 (floatOfInt .f64 (lv:Int)) (floatOfInt .f64 ((r.length:Int)+1))):=by simp [World.cell?,hb7]
    have c71:W1.cell? {block:=wo.heap.size+1,off:=1}=some (.int .i64 (x.1:Int)):=by simp [World.cell?,hb7]
    have hyd:=hy pre ((k:Int),((x.1:Int),(floatOfInt .f64 (lv:Int),floatOfInt .f64 ((r.length:Int)+1)))) W1 (hJ _ _ _ hJp hk1) ?pfx2 (by omega)
    case pfx2 =>
     rw [List.map_append,hpre]
     exact qej hlt (by rw [hS];rfl) rfl
    obtain ⟨fn,tm,asg,bdy,hyr,hround⟩:=hyd
    have hpre1:(pre++[((k:Int),((x.1:Int),(floatOfInt .f64 (lv:Int),floatOfInt .f64 ((r.length:Int)+1))))]).map qfc=ysOf (k+1) (fun k=>topO (stkS ars k)):=by
     rw [List.map_append,hpre,zxl,hS];rfl
    simp only [ycy] at hyr
    generalize pre++[((k:Int),((x.1:Int),(floatOfInt .f64 (lv:Int),floatOfInt .f64 ((r.length:Int)+1))))]=pre1 at hpre1 hround
    gi_wp2_with fail
   all_goals
    refine RoundIn.mono (ynt hround) ?_
    rintro e W3 ⟨rfl,hJ3,hk3⟩
    have hsz3:=hk3.size
    have hge3:∀b,W.heap.size≤b→¬(M b∨b=y):=fun b hb h=>by
     rcases h with h|h
     ·have:=(hM b h).2;omega
     ·omega
    have hrow3:=zex hrow1 hk3 fun g hg=>hge3 g (hrow1.qwu hg)
    have hb3:=(hk3.block _ (by omega) (hge3 _ hszW)).trans hb6
    have c3:W3.cell? {block:=wo.heap.size,off:=0}=some (.int .i64 l[k].1):=by simp [World.cell?,hb3]
    have hkw3:Kept (fun b=>w.heap.size≤b) w W3:=(hkw.trans hk1 fun x h=>.inl (by have:=hw.size;omega)).trans hk3 fun x h=>.inl (by rcases h with h|h;exact (hM x h).1;omega)
    have hkW3:Kept (fun k=>M k∨k=y∨W.heap.size≤k) W W3:=(hkW.trans hk1 fun x h=>.inl (.inr (.inr h))).trans hk3 fun x h=>.inl (h.imp id .inl)
    clear hyr hround c70 c71 hb7
    gi_wp2_with fail
    refine ⟨trivial,(qig (har k hkl') (hrow W3 hkw3).1).mono ?_⟩
    rintro e W4 ⟨rfl,hk4⟩
    have hsz4:=hk4.size
    have hrow4:=zex hrow3 hk4 fun _ _ h=>h
    have hb4:=(hk4.block _ (by omega) fun h=>h).trans hb3
    have c4:W4.cell? {block:=wo.heap.size,off:=0}=some (.int .i64 l[k].1):=by simp [World.cell?,hb4]
    have hJ4:=hJ _ _ _ hJ3 (hk4.weak fun _ _ h=>h.elim)
    have hkw4:=hkw3.trans hk4 fun x h=>h.elim
    have hkW4:=hkW3.trans hk4 fun x h=>h.elim
    clear hk4 hk3 hrow3 hb3 c3 hJ3 hkw3 hkW3
    have hnb4:=fun g (hg:_=some g)=>hrow4.ysk hg hb4 (by decide)
    have hlen4:(decS (stkS ars k)).length≤k:=ynj ars k
    have hq1:(decS (stkS ars k)).length+1≤maxLen:=by unfold maxLen;omega
    have hq2:((decS (stkS ars k)).length+1)*16≤140737488355328:=by omega
    have hq3:W.heap.size≤(W4.alloc (.cells #[.int .i64 (k:Int),.int .i64 (ars k:Int)] 220)).heap.size:=by rw [World.size_alloc];omega
    have hq4:∀u∈[Value.int .i64 (k:Int),Value.int .i64 (ars k:Int)],u.oneCell'=true:=by simp [Value.oneCell']
    have hlit:=ownsRow_lit (w:=W4) (base:=W.heap.size) (e:=220) (cs:= #[.int .i64 (k:Int),.int .i64 (ars k:Int)]) (by omega) (by simp)
    by_cases hz:ars k=0
    case' pos =>
     have hrow6:=hrow4
     have hlen6:(decS (stkS ars k)).length≤k+1:=by omega
     have hpop6:popZ (decS (stkS ars k))=stkS ars (k+1):=by show _=zpm _ _ _;rw [hz];rfl
     have hful6:ars k≠0→decS (stkS ars k)=stkS ars (k+1):=fun h=>absurd hz h
     have hb6':=hb4
     have hJ6:=hJ4
     have hkw6:=hkw4
     have hkW6:=hkW4
     have hz':(ars k:Int)=0:=by omega
     rw [hz']
     gi_wp2_with fail
    case' neg =>
     gi_wp2_with (gi_at_builtin;go_loud (refine qik _ rfl _ _ 216 rfl W.heap.size 220 i1 _ 2 16 Tryz.underlying216 hi1 hiz1 his1 hib1 rfl Nat.two_pos _ _ _ rfl (hrow4.alloc _) ⟨W4.heap.size,0,none⟩ 1 1 [.int .i64 (k:Int),.int .i64 (ars k:Int)] rfl rfl (fun j u hu=>zme hlit j u hu) hq4 hq1 hq2 hq3 ?_;intro v5 W5 hrow5 hk5 hnil5;have hsz5:=hk5.size;rw [World.size_alloc] at hsz5))
     have hk45:Kept (fun b=>W.heap.size≤b) W4 W5:=((kept_alloc W4 _).weak fun _ _ h=>h.elim).trans hk5 fun x h=>.inl (hrow4.qwu h)
     have hrow6:W5.ownsRow W.heap.size 220 2 v5 ((k,ars k)::decS (stkS ars k)).length (zli ((k,ars k)::decS (stkS ars k))):=by rw [qli];exact hrow5
     have hlen6:((k,ars k)::decS (stkS ars k)).length≤k+1:=by rw [List.length_cons];omega
     have hful6:ars k≠0→(k,ars k)::decS (stkS ars k)=stkS ars (k+1):=fun h=>by show _=zpm _ _ _;unfold zpm;rw [if_pos (by omega)]
     have hpop6:popZ ((k,ars k)::decS (stkS ars k))=stkS ars (k+1):=by rw [←hful6 hz];unfold popZ;rw [if_neg hz]
     have hb6':W5.heap[wo.heap.size]? =some (.cells #[.int .i64 l[k].1,.string l[k].2.1,.int .i64 l[k].2.2] 68 (0,0)):=(hk5.block _ (by rw [World.size_alloc];omega) fun h=>hnb4 _ h rfl).trans ((zat W4 _ _ (by omega)).trans hb4)
     have hJ6:=hJ _ _ _ hJ4 hk45
     have hkw6:=hkw4.trans hk45 fun x h=>.inl (by have:=hw.size;omega)
     have hkW6:=hkW4.trans hk45 fun x h=>.inl (.inr (.inr h))
    all_goals
     gi_loopw [3] (fun v3 W'=>∃S':Stk,S'.length≤k+1∧W'.ownsRow W.heap.size 220 2 v3 S'.length (zli S')∧popZ S'=stkS ars (k+1)∧(ars k≠0→S'=stkS ars (k+1))∧
      W'.heap[wo.heap.size]? =some (.cells #[.int .i64 l[k].1,.string l[k].2.1,.int .i64 l[k].2.2] 68 (0,0))∧J pre1 W'∧Kept (fun b=>w.heap.size≤b) w W'∧Kept (fun k=>M k∨k=y∨W.heap.size≤k) W W') (fun v3 _=>sliceLen v3)
     case' atStart=>exact ⟨_,hlen6,hrow6,hpop6,hful6,hb6',hJ6,hkw6,hkW6⟩
     case' round =>
      clear hrow6 hb6' hJ6 hkw6 hkW6 hrow4 hb4 c4 hJ4 hkw4 hkW4 hq3 hlit
      obtain ⟨S',hSl,hr,hp,hf,hb,hJ',hkw',hkW'⟩:=hrel
      cases S'
      case' nil =>
       obtain ⟨cp',ob',rfl⟩:=yds hr
       simp only [List.length_nil] at hr ⊢
       gi_wp2_with fail
       refine ⟨trivial,?_⟩
       gi_wp2_with fail
       have hT:stkS ars (k+1)=[]:=hp.symm
       refine ⟨?_,?_⟩
       ·first
        |exact ⟨k+1,lv,pre1,rfl,rfl,by omega,by omega,by rw [hT];exact hr,hJ',hpre1,hkw',hkW'⟩
        |exact ⟨k+1,lv+1,pre1,rfl,rfl,by omega,by omega,by rw [hT];exact hr,hJ',hpre1,hkw',hkW'⟩
       ·show len-(((k+1:Nat):Int)).toNat<len-((k:Nat):Int).toNat
        omega
      case' cons z r =>
       obtain ⟨g,cap',rfl⟩:=ownsRow_succ hr
       have hctop:=qxg hr
       have hcap:r.length+1≤cap':=by
        rcases hr.2 with ⟨h0,_⟩|⟨g',c',cur,hv,_,_,hc,_⟩
        ·cases h0
        ·cases hv;exact hc
       rw [List.length_cons] at hSl hr
       by_cases hz0:z.2=0
       case' pos =>
        rw [hz0] at hctop
        have hk0:ars k=0:=Classical.byContradiction fun h=>by
         have h1:=hf h
         have h2:stkS ars (k+1)=(k,ars k)::decS (stkS ars k):=by show zpm _ _ _=_;unfold zpm;rw [if_pos (by omega)]
         rw [h2] at h1
         have h3:z=(k,ars k):=(List.cons.inj h1).1
         rw [h3] at hz0
         exact h hz0
        try exact absurd hk0 hz
        all_goals
         have hark:zjb l[k].1=some 0:=by rw [har k hkl',hk0];rfl
         have c9:wr.cell? {block:=wo.heap.size,off:=0}=some (.int .i64 l[k].1):=by simp [World.cell?,hb]
         gi_wp2_with fail
         refine ⟨trivial,(qig hark (hrow wr hkw').1).mono ?_⟩
         rintro e W9 ⟨rfl,hk9⟩
         gi_wp2_with fail
         have hp':popZ r=stkS ars (k+1):=by
          rw [←hp]
          show _=if z.2=0 then popZ r else z::r
          rw [if_pos hz0]
         refine ⟨⟨r,by omega,yrm (zkz r) (zex (by rw [qli] at hr;exact hr) hk9 fun _ _ h=>h),hp',fun h=>absurd hk0 h,(hk9.block _ (Array.getElem?_eq_some_iff.1 hb).1 fun h=>h).trans hb,hJ _ _ _ hJ' (hk9.weak fun _ _ h=>h.elim),hkw'.trans hk9 fun x h=>h.elim,hkW'.trans hk9 fun x h=>h.elim⟩,?_⟩
         show r.length<r.length+1
         omega
       case' neg =>
        gi_wp2_with fail
        refine ⟨trivial,?_⟩
        gi_wp2_with fail
        have hT:stkS ars (k+1)=z::r:=by
         rw [←hp]
         show (if z.2=0 then popZ r else z::r)=_
         rw [if_neg hz0]
        refine ⟨?_,?_⟩
        ·first
         |exact ⟨k+1,lv,pre1,rfl,rfl,by omega,by omega,by rw [hT];exact hr,hJ',hpre1,hkw',hkW'⟩
         |exact ⟨k+1,lv+1,pre1,rfl,rfl,by omega,by omega,by rw [hT];exact hr,hJ',hpre1,hkw',hkW'⟩
        ·show len-(((k+1:Nat):Int)).toNat<len-((k:Nat):Int).toNat
         omega
  ·have hke:k=len:=by omega
   subst hke
   gi_wp2_with fail
   exact ⟨rfl,.tuple #[],by first|kernel_rfl|simp [results,Tryz.f223,go_sem],⟨_,rfl⟩,pre,hpre,hJp⟩
end Go.Proofs.YtjolkdjkhekbnaaGreatDoor.Sv
