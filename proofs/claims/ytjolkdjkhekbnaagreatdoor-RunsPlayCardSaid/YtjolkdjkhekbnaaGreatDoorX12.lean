/- plot.spots$1: what it hands on. -/
import Derived.Test.YtjolkdjkhekbnaaGreatDoorX26
set_option linter.unusedVariables false
set_option linter.unusedSimpArgs false
namespace Go.Proofs.YtjolkdjkhekbnaaGreatDoor.Sv
open Go Go.Sv Go.Proofs Go.Rd Go.RowKit Go.Shelf
set_option maxRecDepth 100000
attribute [local go_sem] Oper.semAt_some
abbrev NdT:Ty:=.pair (.int .i64) (.pair .str (.int .i64))
def xky [Dfr] (w:World) (l:List Nd) (s:Option Addr) (len cap:Nat):Prop:=
 ∀W,Kept (fun b=>w.heap.size≤b) w W→zfe E (fun _=>False) W∧Cl (fun _=>False) W (.slice 68 NdT) l [.slice s len cap]
theorem step0 [Dfr] (W:World):Step (fun _=>False) (Fr.F ⟨fun _=>none,fun _=>none⟩ (fun _=>False)) W W:=
 ⟨fun _ _ _=>rfl,fun b h=>by
  rcases h with h|⟨d,h⟩|⟨n,l,h⟩
  ·exact h.elim
  ·cases h
  ·cases h⟩
theorem yve [Dfr] [zfm] {n:Nat} {l:List Nd} {b:Bool} (h:qiv l=some b) {W:World} {s:Option Addr} {len cap:Nat} (hg:zfe E (fun _=>False) W) (hc:Cl (fun _=>False) W (.slice 68 NdT) l [.slice s len cap]):
 CallsIn Fence.wide n Tryz.prog 224 #[.slice s len cap] W fun e w'=>e= .returned (.bool b)∧Kept (fun _=>False) W w':=by
 obtain ⟨k,hk⟩:=((ygk l).iff _).1 h;obtain ⟨hf,hct⟩:=zqd qwp k 224 l b hk;rw [callsIn_wide];have hst:=step0 W;refine (hct W (fun _=>False) (fun _=>False) ⟨fun _=>none,fun _=>none⟩ [.slice s len cap] ⟨.cons (Cl.step hst hc) .nil,fun _=>rfl,fun n b l h=>(by cases h),fun n n' b l l' h=>(by cases h),fun b h=>h.elim,hg.step hst⟩).mono ?_;rintro e w' ⟨v,rfl,hk,hr⟩;obtain ⟨T,hT⟩:=hr 0;have hv:v= .bool b:=hT.rel;exact ⟨by rw [hv],hk⟩
theorem qum [Dfr] [zfm] {n:Nat} {k r:Int} (h:znx k=some r) {W:World} (hg:zfe E (fun _=>False) W):
 CallsIn Fence.wide n Tryz.prog 177 #[.int .i64 k] W fun e w'=>e= .returned (.int .i64 r)∧Kept (fun _=>False) W w':=by
 obtain ⟨q,hq⟩:=((yat k).iff _).1 h;obtain ⟨hf,hct⟩:=zqd qwp q 177 k r hq;rw [callsIn_wide];have hst:=step0 W;refine (hct W (fun _=>False) (fun _=>False) ⟨fun _=>none,fun _=>none⟩ [.int .i64 k] ⟨.cons rfl .nil,fun _=>rfl,fun n b l h=>(by cases h),fun n n' b l l' h=>(by cases h),fun b h=>h.elim,hg.step hst⟩).mono ?_;rintro e w' ⟨v,rfl,hk,hr⟩;obtain ⟨T,hT⟩:=hr 0;have hv:v= .int .i64 r:=hT.rel;exact ⟨by rw [hv],hk⟩
def zqz (S:Stk):List Value:=S.reverse.flatMap fun x=>[.int .i64 (x.1:Int),.int .i64 (x.2:Int)]
theorem zql [Dfr]:∀S:Stk,(zqz S).length=S.length*2
 |[]=>rfl
 |x::r=>by
  have:zqz (x::r)=zqz r++[.int .i64 (x.1:Int),.int .i64 (x.2:Int)]:=by simp [zqz]
  rw [this,List.length_append,zql r];simp only [List.length_cons,List.length_nil];omega
theorem ymp [Dfr] {w:World} {base:Nat} {e:TypeId} {g cap:Nat} {z:Nat×Nat} {r:Stk} (h:w.ownsRow base e 2 (.slice (some ⟨g,0,none⟩) (r.length+1) cap) (r.length+1) (zqz (z::r))):
 w.cell? {block:=g,off:=r.length*2+1}=some (.int .i64 (z.2:Int)):=by
 have e:zqz (z::r)=zqz r++[.int .i64 (z.1:Int),.int .i64 (z.2:Int)]:=by simp [zqz]
 have:=zsb h (r.length*2+1) (.int .i64 (z.2:Int)) (by rw [e,List.getElem?_append_right (by rw [zql];omega),zql];simp);have ea:(⟨g,0,none⟩:Addr).add (r.length*2+1)={block:=g,off:=r.length*2+1}:=by unfold Addr.add;rw [if_neg (by omega),Nat.zero_add]
 rwa [ea] at this
theorem xgr [Dfr] {w:World} {base:Nat} {e:TypeId} {size g cap n:Nat} {xs ys:List Value} (hl:xs.length=n*size) (h:w.ownsRow base e size (.slice (some ⟨g,0,none⟩) (n+1) cap) (n+1) (xs++ys)):
 w.ownsRow base e size (.slice (some ⟨g,0,none⟩) n cap) n xs:=by
 rcases h.2 with ⟨h0,_⟩|⟨g',cap',cur,hv,hb,hh,hc,hm,hs,ht⟩
 ·cases h0
 ·cases hv;refine ⟨hl,.inr ⟨g,cap,cur,rfl,hb,hh,by omega,hm,hs,?_⟩⟩;have h1:=congrArg (List.take (n*size)) ht;rw [List.take_take,Nat.min_eq_left (Nat.mul_le_mul_right _ (Nat.le_succ n)),←hl,List.take_left] at h1;rw [←hl];exact h1
theorem xgq [Dfr] {w:World} {base:Nat} {e:TypeId} {g cap:Nat} {z:Nat×Nat} {r:Stk} (h:w.ownsRow base e 2 (.slice (some ⟨g,0,none⟩) (r.length+1) cap) (r.length+1) (zqz (z::r))) (m:Nat):
 (w.setCell {block:=g,off:=r.length*2+1} (.int .i64 (m:Int))).ownsRow base e 2 (.slice (some ⟨g,0,none⟩) (r.length+1) cap) (r.length+1) (zqz ((z.1,m)::r)):=by
 have e1:∀x:Nat×Nat,zqz (x::r)=zqz r++[.int .i64 (x.1:Int),.int .i64 (x.2:Int)]:=fun x=>by simp [zqz]
 rcases h.2 with ⟨h0,_⟩|⟨g',cap',cur,hv,hb,hh,hc,hm,hs,ht⟩
 ·cases h0
 ·cases hv;refine ⟨by rw [zql];rfl,.inr ⟨g,cap,cur.setIfInBounds (r.length*2+1) (.int .i64 (m:Int)),rfl,hb,?_,hc,hm,by simp [hs],?_⟩⟩
  ·unfold World.setCell;simp only [Array.getElem?_modify,if_true,hh];simp
  ·have h2:=zql r;rw [Array.toList_setIfInBounds,List.take_set,ht,e1,e1,List.set_append_right _ _ (by omega),h2];rw [show r.length*2+1-r.length*2=1 by omega];rfl
theorem ysh [Dfr] {w:World} {base:Nat} {e:TypeId} {g cap:Nat} {z:Nat×Nat} {r:Stk} (h:w.ownsRow base e 2 (.slice (some ⟨g,0,none⟩) (r.length+1) cap) (r.length+1) (zqz (z::r))):
 w.cell? {block:=g,off:=r.length*2}=some (.int .i64 (z.1:Int)):=by
 have e:zqz (z::r)=zqz r++[.int .i64 (z.1:Int),.int .i64 (z.2:Int)]:=by simp [zqz]
 have:=zsb h (r.length*2) (.int .i64 (z.1:Int)) (by rw [e,List.getElem?_append_right (by rw [zql];omega),zql];simp);have ea:(⟨g,0,none⟩:Addr).add (r.length*2)={block:=g,off:=r.length*2}:=by
  unfold Addr.add;split
  ·rename_i h;rw [h]
  ·rw [Nat.zero_add]
 rwa [ea] at this
theorem xam [Dfr] {w:World} {base:Nat} {e:TypeId} {size g cap n:Nat} {xs:List Value} (h:w.ownsRow base e size (.slice (some ⟨g,0,none⟩) (n+1) cap) (n+1) xs) (j:Nat):w.frozen? {block:=g,off:=j}=false:=by
 rcases h.2 with ⟨h0,_⟩|⟨g',cap',cur,hv,hb,hh,hc,hm,hs,ht⟩
 ·cases h0
 ·cases hv;simp [World.frozen?,hh]
theorem qni [Dfr] {w:World} {b o:Nat} {v:Value}:Kept (fun k=>k=b) w (w.setCell {block:=b,off:=o} v):=
 ⟨rfl,rfl,rfl,by simp [World.setCell],fun k _ hk=>by simp [World.setCell,Array.getElem?_modify,Ne.symm hk],Nat.le_refl _⟩
theorem yqh [Dfr] {W:World} {l:List Nd} {s:Option Addr} {len cap:Nat} (h:Cl (fun _=>False) W (.slice 68 NdT) l [.slice s len cap]) {k:Nat} (hk:k<l.length):
 ∃a,s=some a∧W.cell? (a.add (k*3))=some (.int .i64 l[k].1)∧W.cell? {block:=(a.add (k*3)).block,off:=(a.add (k*3)).off+1}=some (.string l[k].2.1)∧W.cell? {block:=(a.add (k*3)).block,off:=(a.add (k*3)).off+2}=some (.int .i64 l[k].2.2):=by
 rw [Cl] at h;obtain ⟨A,c,e,_,h⟩:=h;cases e;rcases h with h|⟨a,rfl,_,h⟩
 ·rw [h] at hk;exact absurd hk (by simp)
 ·obtain ⟨ds,hd,hc⟩:=h k _ (List.getElem?_eq_getElem hk);obtain ⟨c1,c2,rfl,h1,h2⟩:=hd;obtain ⟨c3,c4,rfl,h3,h4⟩:=h2;have h1:c1=[.int .i64 l[k].1]:=h1;have h3:c3=[.string l[k].2.1]:=h3;have h4:c4=[.int .i64 l[k].2.2]:=h4;subst h1 h3 h4;have ea:∀j,0<j→a.add (k*3+j)={block:=(a.add (k*3)).block,off:=(a.add (k*3)).off+j}:=fun j hj=>by
   unfold Addr.add;rw [if_neg (by omega)];split
   ·rename_i h;rw [h];simp
   ·simp [Nat.add_assoc]
  refine ⟨a,rfl,hc 0 _ rfl,?_,?_⟩
  ·rw [←ea 1 (by omega)];exact hc 1 _ rfl
  ·rw [←ea 2 (by omega)];exact hc 2 _ rfl
theorem ytq [Dfr] {w:World} {base:Nat} {e:TypeId} {size:Nat} {v:Value} {n:Nat} {xs:List Value} (h:w.ownsRow base e size v n xs):∃cap ob,v= .slice ob n cap:=by
 obtain ⟨_,h⟩:=h;rcases h with ⟨rfl,rfl⟩|⟨g,cap,cur,rfl,_⟩
 ·exact ⟨_,_,rfl⟩
 ·exact ⟨_,_,rfl⟩
theorem qpq [Dfr] {k n:Nat} {p:Nat→Int} {x:Spot} (hk:k<n) (hp:p k=x.2.1) (hx:x.1=(k:Int)):ysOf k p++[x].map qqj <+: ysOf n p:=by
 have e:ysOf k p++[x].map qqj=ysOf (k+1) p:=by rw [qhl];show _++[(x.1,x.2.1)]=_;rw [hx,hp]
 rw [e];unfold ysOf;refine List.IsPrefix.map _ ?_;exact List.prefix_iff_eq_take.2 (by rw [List.length_range,List.take_range,Nat.min_eq_left (by omega)])
theorem xde [Dfr] {m m':Nat} {P:Program} {l:Nat} {f:FuncId} {tmps:Array Value} {assign body:Code} {w:World} {R:Ending→World→Prop}
 (h:RoundIn Fence.wide m P l f tmps assign body w R):RoundIn Fence.wide m' P l f tmps assign body w R:=⟨h.1,fun c cs _=>h.2 c cs (fun d h=>by cases h)⟩
theorem _root_.Go.World.ownsRow.ymc [Dfr] {w:World} {base:Nat} {e:TypeId} {size:Nat} {v:Value} {n:Nat} {xs:List Value} (h:w.ownsRow base e size v n xs) {g:Nat} (hg:v.ownBlock=some g):base≤g:=by
 obtain ⟨_,h2⟩:=h;rcases h2 with ⟨h0,_⟩|⟨g',cap',cur,rfl,hb,_⟩
 ·rw [h0] at hg;cases hg
 ·cases hg;exact hb
theorem _root_.Go.World.ownsRow.xhp [Dfr] {w:World} {base:Nat} {e:TypeId} {size:Nat} {v:Value} {n:Nat} {xs:List Value} (h:w.ownsRow base e size v n xs) {g b:Nat} {cs:Array Value} {t:TypeId} (hg:v.ownBlock=some g) (hb:w.heap[b]? =some (.cells cs t (0,0))) (ht:t≠e):g≠b:=by
 obtain ⟨_,h2⟩:=h;rcases h2 with ⟨h0,_⟩|⟨g',cap',cur,rfl,_,hh,_⟩
 ·rw [h0] at hg;cases hg
 ·cases hg;rintro rfl;rw [hb] at hh;cases hh;exact ht rfl
theorem xcv [Dfr] (ars:Nat→Nat) (k:Nat):(decS (stkS ars k)).length≤k:=by
 have:∀S:Stk,(decS S).length=S.length:=fun S=>by cases S<;>rfl
 rw [this];have h:∀k,(stkS ars k).length≤k:=by
  intro k
  induction k with
  |zero=>exact Nat.le_refl _
  |succ k ih=>
   show (zwl _ _ _).length≤_;unfold zwl;split
   ·rw [List.length_cons,this];omega
   ·have hp:∀S:Stk,(popZ S).length≤S.length:=by
     intro S
     induction S with
     |nil=>exact Nat.le_refl _
     |cons y r ih=>
      unfold popZ;split
      ·rw [List.length_cons];omega
      ·exact Nat.le_refl _
    have:=hp (decS (stkS ars k));rw [‹∀S:Stk,(decS S).length=S.length›] at this;omega
 exact h k
theorem qyc [Dfr] (x:Nat×Nat) (r:Stk):zqz (x::r)=zqz r++[.int .i64 (x.1:Int),.int .i64 (x.2:Int)]:=by simp [zqz]
def sliceLen:Value→Nat
 | .slice _ n _=>n
 |_=>0
set_option maxHeartbeats 4000000 in
theorem xjj [Dfr] [zfm] {l:List Nd} (ars:Nat→Nat) (s:Option Addr) (len cap:Nat) (w:World) (hrow:xky w l s len cap) (hone:qiv l=some true) (hl:l.length=len) (hmax:len≤1000000) (har:∀i (h:i<l.length),znx l[i].1=some (ars i:Int)) (har2:∀i,i<len→ars i≤2):
 xfr w (ysOf len fun k=>topO (stkS ars k)) s len cap:=by
 intro y bl M J W hw hM hyw hyW hbl hMbl hne hJ hy h0;refine callsIn_of_wp Tryz.func223 rfl trivial ?_ rfl;simp only [Tryz.ntmps223,List.size_toArray,List.length_cons,List.length_nil,Nat.reduceAdd,Nat.reduceSub,Array.replicate_succ,Array.replicate_zero,List.push_toArray,List.append_toArray,List.nil_append,List.cons_append];have hcell:W.cell? ⟨bl,0,none⟩=some (.slice s len cap):=by simp [World.cell?,hbl]
 gi_wp2_with fail;refine ⟨trivial,(yve hone (hrow W hw).1 (hrow W hw).2).mono ?_⟩;rintro e W2 ⟨rfl,hk2⟩;have hbl2:=(hk2.block bl (Array.getElem?_eq_some_iff.1 hbl).1 fun h=>h).trans hbl;have hcell2:W2.cell? ⟨bl,0,none⟩=some (.slice s len cap):=by simp [World.cell?,hbl2]
 gi_wp2_with fail;gi_loopw [3,4,15] (fun v3 v4 v15 Wr=>∃(k:Nat) (lv:Nat) (pre:List Spot),v15= .int .i64 (k:Int)∧v4= .int .i64 (lv:Int)∧lv≤k∧k≤len∧Wr.ownsRow W.heap.size 220 2 v3 (stkS ars k).length (zqz (stkS ars k))∧
  J pre Wr∧pre.map qqj=ysOf k (fun k=>topO (stkS ars k))∧Kept (fun b=>w.heap.size≤b) w Wr∧Kept (fun k=>M k∨k=y∨W.heap.size≤k) W Wr) (fun _ _ v15 _=>len-(intOf v15).toNat)
 case atStart=>exact ⟨0,0,[],rfl,rfl,Nat.le_refl _,Nat.zero_le _,⟨rfl,.inl ⟨rfl,rfl⟩⟩,hJ _ _ _ h0 (hk2.weak fun _ _ h=>h.elim),rfl,hw.trans hk2 fun x h=>h.elim,hk2.weak fun _ _ h=>h.elim⟩
 case round=>
  obtain ⟨k,lv,pre,rfl,rfl,hlv,hkl,hopen,hJp,hpre,hkw,hkW⟩:=hrel;obtain ⟨wo,rfl⟩:∃wo,wo=wr:=⟨_,rfl⟩;by_cases hlt:k<len
  ·have hkl':k<l.length:=by omega
   obtain ⟨a,rfl,c0,c1,c2⟩:=yqh (hrow wo hkw).2 hkl';have hsc:=fun (a:Addr) (re im:Nat) (w:World)=>run_store Tryz.prog w a (.complex .f64 re im) .plain rfl
   have hszW:=hkW.size;obtain ⟨i1,hi1,hiz1,his1,hib1⟩:=info_parts (P:=Tryz.prog) (e:=220) (z:=.agg #[.int .i64 0,.int .i64 0]) (size:=2) (bytes:=16) (by kernel_rfl);cases hS:stkS ars k
   case' nil=>
    rw [hS] at hopen;obtain ⟨cp,ob,rfl⟩:=ytq hopen;simp only [List.length_nil] at hopen ⊢;obtain ⟨W1,hW1⟩:∃W1,((wo.alloc (.cells #[.int .i64 l[k].1,.string l[k].2.1,.int .i64 l[k].2.2] 68)).alloc (.cells #[.complex .f64 (floatOfInt .f64 (lv:Int)) (floatOfInt .f64 0),.int .i64 (-1)] 178))=W1:=⟨_,rfl⟩;have hk1':Kept (fun _=>False) wo W1:=by rw [←hW1];exact (kept_alloc wo _).alloc _
    have hk1:Kept (fun b=>W.heap.size≤b) wo W1:=hk1'.weak fun _ _ h=>h.elim
    have hsz1:W1.heap.size=wo.heap.size+2:=by rw [←hW1];simp
    have hyd:=hy pre ((k:Int),(-1,(floatOfInt .f64 (lv:Int),floatOfInt .f64 0))) W1 (hJ _ _ _ hJp hk1) ?pfx (by omega)
    case pfx=>rw [List.map_append,hpre];exact qpq hlt (by rw [hS];rfl) rfl
    obtain ⟨fn,tm,asg,bdy,hyr,hround⟩:=hyd;have hpre1:(pre++[((k:Int),((-1:Int),(floatOfInt .f64 (lv:Int),floatOfInt .f64 0)))]).map qqj=ysOf (k+1) (fun k=>topO (stkS ars k)):=by rw [List.map_append,hpre,qhl,hS];rfl
    simp only [ysu] at hyr;generalize pre++[((k:Int),((-1:Int),(floatOfInt .f64 (lv:Int),floatOfInt .f64 0)))]=pre1 at hpre1 hround;have hb6:W1.heap[wo.heap.size]? =some (.cells #[.int .i64 l[k].1,.string l[k].2.1,.int .i64 l[k].2.2] 68 (0,0)):=by rw [←hW1];exact (zbt _ _ _ (by simp)).trans (World.alloc_heap_new wo _)
    have hb7:W1.heap[wo.heap.size+1]? =some (.cells #[.complex .f64 (floatOfInt .f64 (lv:Int)) (floatOfInt .f64 0),.int .i64 (-1)] 178 (0,0)):=by
     rw [←hW1];have:=World.alloc_heap_new (wo.alloc (.cells #[.int .i64 l[k].1,.string l[k].2.1,.int .i64 l[k].2.2] 68)) (.cells #[.complex .f64 (floatOfInt .f64 (lv:Int)) (floatOfInt .f64 0),.int .i64 (-1)] 178)
     rwa [World.size_alloc] at this
    have c70:W1.cell? {block:=wo.heap.size+1,off:=0}=some (.complex .f64 (floatOfInt .f64 (lv:Int)) (floatOfInt .f64 0)):=by simp [World.cell?,hb7]
    have c71:W1.cell? {block:=wo.heap.size+1,off:=1}=some (.int .i64 (-1)):=by simp [World.cell?,hb7]
    have hrow1:W1.ownsRow W.heap.size 220 2 (.slice ob 0 cp) (decS (stkS ars k)).length (zqz (decS (stkS ars k))):=by rw [hS];exact zis hopen hk1' fun _ _ h=>h
    gi_wp2_with fail
   case' cons x r=>
    obtain ⟨hs1,hs2,hs3⟩:=yed ars k fun j hj=>har2 j (by omega)
    have hx2:0<x.2:=hs3 x r hS;have hx1:x.1<k∧x.2≤2:=hs1 x (by rw [hS];exact List.mem_cons_self ..);rw [hS] at hs2;rw [List.length_cons] at hs2;rw [hS,List.length_cons] at hopen;obtain ⟨g,cp,rfl⟩:=ownsRow_succ hopen;have hcap0:r.length+1≤cp:=by
     rcases hopen.2 with ⟨h0,_⟩|⟨g',c',cur,hv,_,_,hc,_⟩
     ·cases h0
     ·cases hv;exact hc
    have hgW:W.heap.size≤g:=hopen.ymc rfl;have hgl:g<wo.heap.size:=by
     rcases hopen.2 with ⟨h0,_⟩|⟨g',c',cur,hv,_,hh,_⟩
     ·cases h0
     ·cases hv;exact (Array.getElem?_eq_some_iff.1 hh).1
    obtain ⟨Wa,hWa⟩:∃Wa,((wo.alloc (.cells #[.int .i64 l[k].1,.string l[k].2.1,.int .i64 l[k].2.2] 68)).alloc (.cells #[.complex .f64 (floatOfInt .f64 (lv:Int)) (floatOfInt .f64 ((r.length:Int)+1)),.int .i64 (-1)] 178))=Wa:=⟨_,rfl⟩;have hka:Kept (fun _=>False) wo Wa:=by rw [←hWa];exact (kept_alloc wo _).alloc _
    have hsza:Wa.heap.size=wo.heap.size+2:=by rw [←hWa];simp
    have hb6a:Wa.heap[wo.heap.size]? =some (.cells #[.int .i64 l[k].1,.string l[k].2.1,.int .i64 l[k].2.2] 68 (0,0)):=by rw [←hWa];exact (zbt _ _ _ (by simp)).trans (World.alloc_heap_new wo _)
    have hb7a:Wa.heap[wo.heap.size+1]? =some (.cells #[.complex .f64 (floatOfInt .f64 (lv:Int)) (floatOfInt .f64 ((r.length:Int)+1)),.int .i64 (-1)] 178 (0,0)):=by
     rw [←hWa];have:=World.alloc_heap_new (wo.alloc (.cells #[.int .i64 l[k].1,.string l[k].2.1,.int .i64 l[k].2.2] 68)) (.cells #[.complex .f64 (floatOfInt .f64 (lv:Int)) (floatOfInt .f64 ((r.length:Int)+1)),.int .i64 (-1)] 178)
     rwa [World.size_alloc] at this
    have ca1:Wa.cell? {block:=wo.heap.size+1,off:=1}=some (.int .i64 (-1)):=by simp [World.cell?,hb7a]
    have fa1:Wa.frozen? {block:=wo.heap.size+1,off:=1}=false:=by simp [World.frozen?,hb7a]
    have hrowa:=zis hopen hka fun _ _ h=>h
    have ca2:=ysh hrowa;obtain ⟨Wb,hWb⟩:∃Wb,Wa.setCell {block:=wo.heap.size+1,off:=1} (.int .i64 (x.1:Int))=Wb:=⟨_,rfl⟩;have hkb:Kept (fun b=>b=wo.heap.size+1) Wa Wb:=by rw [←hWb];exact qni
    have hrowb:=zis hrowa hkb fun g' hg' h=>by have:g=g':=Option.some.inj hg';omega
    have cb1:=ymp hrowb;have fb1:=xam hrowb (r.length*2+1);obtain ⟨W1,hW1⟩:∃W1,Wb.setCell {block:=g,off:=r.length*2+1} (.int .i64 ((x.2:Int)-1))=W1:=⟨_,rfl⟩;have hkc:Kept (fun b=>b=g) Wb W1:=by rw [←hW1];exact qni
    have hk1:Kept (fun b=>W.heap.size≤b) wo W1:=((hka.weak fun _ _ h=>h.elim).trans hkb fun x h=>.inr (by omega)).trans hkc fun x h=>.inl (by omega)
    have hszb:=hkb.size;have hszc:=hkc.size;have hsz1:wo.heap.size+2≤W1.heap.size:=by omega
    have hrow1:W1.ownsRow W.heap.size 220 2 (.slice (some ⟨g,0,none⟩) (r.length+1) cp) (decS (stkS ars k)).length (zqz (decS (stkS ars k))):=by rw [hS,←hW1];have:=xgq hrowb (x.2-1);rw [show ((x.2-1:Nat):Int)=(x.2:Int)-1 by omega] at this;exact this
    have hb6:W1.heap[wo.heap.size]? =some (.cells #[.int .i64 l[k].1,.string l[k].2.1,.int .i64 l[k].2.2] 68 (0,0)):=(hkc.block _ (by omega) (by omega)).trans ((hkb.block _ (by omega) (by omega)).trans hb6a);have hb7b:Wb.heap[wo.heap.size+1]? =some (.cells #[.complex .f64 (floatOfInt .f64 (lv:Int)) (floatOfInt .f64 ((r.length:Int)+1)),.int .i64 (x.1:Int)] 178 (0,0)):=by rw [←hWb];unfold World.setCell;simp only [Array.getElem?_modify,if_true,hb7a];simp
    have hb7:=(hkc.block _ (by omega) (by omega)).trans hb7b;have c70:W1.cell? {block:=wo.heap.size+1,off:=0}=some (.complex .f64 (floatOfInt .f64 (lv:Int)) (floatOfInt .f64 ((r.length:Int)+1))):=by simp [World.cell?,hb7]
    have c71:W1.cell? {block:=wo.heap.size+1,off:=1}=some (.int .i64 (x.1:Int)):=by simp [World.cell?,hb7]
    have hyd:=hy pre ((k:Int),((x.1:Int),(floatOfInt .f64 (lv:Int),floatOfInt .f64 ((r.length:Int)+1)))) W1 (hJ _ _ _ hJp hk1) ?pfx2 (by omega)
    case pfx2=>rw [List.map_append,hpre];exact qpq hlt (by rw [hS];rfl) rfl
    obtain ⟨fn,tm,asg,bdy,hyr,hround⟩:=hyd;have hpre1:(pre++[((k:Int),((x.1:Int),(floatOfInt .f64 (lv:Int),floatOfInt .f64 ((r.length:Int)+1))))]).map qqj=ysOf (k+1) (fun k=>topO (stkS ars k)):=by rw [List.map_append,hpre,qhl,hS];rfl
    simp only [ysu] at hyr;generalize pre++[((k:Int),((x.1:Int),(floatOfInt .f64 (lv:Int),floatOfInt .f64 ((r.length:Int)+1))))]=pre1 at hpre1 hround;gi_wp2_with fail
   all_goals
    refine RoundIn.mono (xde hround) ?_;rintro e W3 ⟨rfl,hJ3,hk3⟩;have hsz3:=hk3.size;have hge3:∀b,W.heap.size≤b→¬(M b∨b=y):=fun b hb h=>by
     rcases h with h|h
     ·have:=(hM b h).2;omega
     ·omega
    have hrow3:=zis hrow1 hk3 fun g hg=>hge3 g (hrow1.ymc hg)
    have hb3:=(hk3.block _ (by omega) (hge3 _ hszW)).trans hb6;have c3:W3.cell? {block:=wo.heap.size,off:=0}=some (.int .i64 l[k].1):=by simp [World.cell?,hb3]
    have hkw3:Kept (fun b=>w.heap.size≤b) w W3:=(hkw.trans hk1 fun x h=>.inl (by have:=hw.size;omega)).trans hk3 fun x h=>.inl (by rcases h with h|h;exact (hM x h).1;omega)
    have hkW3:Kept (fun k=>M k∨k=y∨W.heap.size≤k) W W3:=(hkW.trans hk1 fun x h=>.inl (.inr (.inr h))).trans hk3 fun x h=>.inl (h.imp id .inl)
    clear hyr hround c70 c71 hb7;gi_wp2_with fail;refine ⟨trivial,(qum (har k hkl') (hrow W3 hkw3).1).mono ?_⟩;rintro e W4 ⟨rfl,hk4⟩;have hsz4:=hk4.size;have hrow4:=zis hrow3 hk4 fun _ _ h=>h
    have hb4:=(hk4.block _ (by omega) fun h=>h).trans hb3;have c4:W4.cell? {block:=wo.heap.size,off:=0}=some (.int .i64 l[k].1):=by simp [World.cell?,hb4]
    have hJ4:=hJ _ _ _ hJ3 (hk4.weak fun _ _ h=>h.elim);have hkw4:=hkw3.trans hk4 fun x h=>h.elim
    have hkW4:=hkW3.trans hk4 fun x h=>h.elim
    clear hk4 hk3 hrow3 hb3 c3 hJ3 hkw3 hkW3;have hnb4:=fun g (hg:_=some g)=>hrow4.xhp hg hb4 (by decide)
    have hlen4:(decS (stkS ars k)).length≤k:=xcv ars k;have hq1:(decS (stkS ars k)).length+1≤maxLen:=by unfold maxLen;omega
    have hq2:((decS (stkS ars k)).length+1)*16≤140737488355328:=by omega
    have hq3:W.heap.size≤(W4.alloc (.cells #[.int .i64 (k:Int),.int .i64 (ars k:Int)] 220)).heap.size:=by rw [World.size_alloc];omega
    have hq4:∀u∈[Value.int .i64 (k:Int),Value.int .i64 (ars k:Int)],u.oneCell'=true:=by simp [Value.oneCell']
    have hlit:=ownsRow_lit (w:=W4) (base:=W.heap.size) (e:=220) (cs:= #[.int .i64 (k:Int),.int .i64 (ars k:Int)]) (by omega) (by simp);by_cases hz:ars k=0
    case' pos=>
     have hrow6:=hrow4;have hlen6:(decS (stkS ars k)).length≤k+1:=by omega
     have hpop6:popZ (decS (stkS ars k))=stkS ars (k+1):=by show _=zwl _ _ _;rw [hz];rfl
     have hful6:ars k≠0→decS (stkS ars k)=stkS ars (k+1):=fun h=>absurd hz h
     have hb6':=hb4;have hJ6:=hJ4;have hkw6:=hkw4;have hkW6:=hkW4;have hz':(ars k:Int)=0:=by omega
     rw [hz'];gi_wp2_with fail
    case' neg=>
     gi_wp2_with (gi_at_builtin;go_loud (refine qur _ rfl _ _ 216 rfl W.heap.size 220 i1 _ 2 16 Tryz.underlying216 hi1 hiz1 his1 hib1 rfl Nat.two_pos _ _ _ rfl (hrow4.alloc _) ⟨W4.heap.size,0,none⟩ 1 1 [.int .i64 (k:Int),.int .i64 (ars k:Int)] rfl rfl (fun j u hu=>zsb hlit j u hu) hq4 hq1 hq2 hq3 ?_;intro v5 W5 hrow5 hk5 hnil5;have hsz5:=hk5.size;rw [World.size_alloc] at hsz5));have hk45:Kept (fun b=>W.heap.size≤b) W4 W5:=((kept_alloc W4 _).weak fun _ _ h=>h.elim).trans hk5 fun x h=>.inl (hrow4.ymc h)
     have hrow6:W5.ownsRow W.heap.size 220 2 v5 ((k,ars k)::decS (stkS ars k)).length (zqz ((k,ars k)::decS (stkS ars k))):=by rw [qyc];exact hrow5
     have hlen6:((k,ars k)::decS (stkS ars k)).length≤k+1:=by rw [List.length_cons];omega
     have hful6:ars k≠0→(k,ars k)::decS (stkS ars k)=stkS ars (k+1):=fun h=>by show _=zwl _ _ _;unfold zwl;rw [if_pos (by omega)]
     have hpop6:popZ ((k,ars k)::decS (stkS ars k))=stkS ars (k+1):=by rw [←hful6 hz];unfold popZ;rw [if_neg hz]
     have hb6':W5.heap[wo.heap.size]? =some (.cells #[.int .i64 l[k].1,.string l[k].2.1,.int .i64 l[k].2.2] 68 (0,0)):=(hk5.block _ (by rw [World.size_alloc];omega) fun h=>hnb4 _ h rfl).trans ((zbt W4 _ _ (by omega)).trans hb4);have hJ6:=hJ _ _ _ hJ4 hk45;have hkw6:=hkw4.trans hk45 fun x h=>.inl (by have:=hw.size;omega)
     have hkW6:=hkW4.trans hk45 fun x h=>.inl (.inr (.inr h))
    all_goals
     gi_loopw [3] (fun v3 W'=>∃S':Stk,S'.length≤k+1∧W'.ownsRow W.heap.size 220 2 v3 S'.length (zqz S')∧popZ S'=stkS ars (k+1)∧(ars k≠0→S'=stkS ars (k+1))∧
      W'.heap[wo.heap.size]? =some (.cells #[.int .i64 l[k].1,.string l[k].2.1,.int .i64 l[k].2.2] 68 (0,0))∧J pre1 W'∧Kept (fun b=>w.heap.size≤b) w W'∧Kept (fun k=>M k∨k=y∨W.heap.size≤k) W W') (fun v3 _=>sliceLen v3)
     case' atStart=>exact ⟨_,hlen6,hrow6,hpop6,hful6,hb6',hJ6,hkw6,hkW6⟩
     case' round=>
      clear hrow6 hb6' hJ6 hkw6 hkW6 hrow4 hb4 c4 hJ4 hkw4 hkW4 hq3 hlit;obtain ⟨S',hSl,hr,hp,hf,hb,hJ',hkw',hkW'⟩:=hrel;cases S'
      case' nil=>
       obtain ⟨cp',ob',rfl⟩:=ytq hr;simp only [List.length_nil] at hr ⊢;gi_wp2_with fail;refine ⟨trivial,?_⟩;gi_wp2_with fail;have hT:stkS ars (k+1)=[]:=hp.symm;refine ⟨?_,?_⟩
       ·first
        |exact ⟨k+1,lv,pre1,rfl,rfl,by omega,by omega,by rw [hT];exact hr,hJ',hpre1,hkw',hkW'⟩
        |exact ⟨k+1,lv+1,pre1,rfl,rfl,by omega,by omega,by rw [hT];exact hr,hJ',hpre1,hkw',hkW'⟩
       ·show len-(((k+1:Nat):Int)).toNat<len-((k:Nat):Int).toNat;omega
      case' cons z r=>
       obtain ⟨g,cap',rfl⟩:=ownsRow_succ hr;have hctop:=ymp hr;have hcap:r.length+1≤cap':=by
        rcases hr.2 with ⟨h0,_⟩|⟨g',c',cur,hv,_,_,hc,_⟩
        ·cases h0
        ·cases hv;exact hc
       rw [List.length_cons] at hSl hr;by_cases hz0:z.2=0
       case' pos=>
        rw [hz0] at hctop;have hk0:ars k=0:=Classical.byContradiction fun h=>by
         have h1:=hf h;have h2:stkS ars (k+1)=(k,ars k)::decS (stkS ars k):=by show zwl _ _ _=_;unfold zwl;rw [if_pos (by omega)]
         rw [h2] at h1;have h3:z=(k,ars k):=(List.cons.inj h1).1;rw [h3] at hz0;exact h hz0
        try exact absurd hk0 hz
        all_goals
         have hark:znx l[k].1=some 0:=by rw [har k hkl',hk0];rfl
         have c9:wr.cell? {block:=wo.heap.size,off:=0}=some (.int .i64 l[k].1):=by simp [World.cell?,hb]
         gi_wp2_with fail;refine ⟨trivial,(qum hark (hrow wr hkw').1).mono ?_⟩;rintro e W9 ⟨rfl,hk9⟩;gi_wp2_with fail;have hp':popZ r=stkS ars (k+1):=by
          rw [←hp];show _=if z.2=0 then popZ r else z::r
          rw [if_pos hz0]
         refine ⟨⟨r,by omega,xgr (zql r) (zis (by rw [qyc] at hr;exact hr) hk9 fun _ _ h=>h),hp',fun h=>absurd hk0 h,(hk9.block _ (Array.getElem?_eq_some_iff.1 hb).1 fun h=>h).trans hb,hJ _ _ _ hJ' (hk9.weak fun _ _ h=>h.elim),hkw'.trans hk9 fun x h=>h.elim,hkW'.trans hk9 fun x h=>h.elim⟩,?_⟩;show r.length<r.length+1;omega
       case' neg=>
        gi_wp2_with fail;refine ⟨trivial,?_⟩;gi_wp2_with fail;have hT:stkS ars (k+1)=z::r:=by rw [←hp];show (if z.2=0 then popZ r else z::r)=_;rw [if_neg hz0]
        refine ⟨?_,?_⟩
        ·first
         |exact ⟨k+1,lv,pre1,rfl,rfl,by omega,by omega,by rw [hT];exact hr,hJ',hpre1,hkw',hkW'⟩
         |exact ⟨k+1,lv+1,pre1,rfl,rfl,by omega,by omega,by rw [hT];exact hr,hJ',hpre1,hkw',hkW'⟩
        ·show len-(((k+1:Nat):Int)).toNat<len-((k:Nat):Int).toNat;omega
  ·have hke:k=len:=by omega
   subst hke;gi_wp2_with fail;exact ⟨rfl,.tuple #[],by first|kernel_rfl|simp [results,Tryz.f223,go_sem],⟨_,rfl⟩,pre,hpre,hJp⟩
open Go Go.Sv Go.Proofs Go.Rd Go.RowKit
attribute [local go_sem] Oper.semAt_some
theorem xjf [Dfr] {P:Option Addr→Nat→World→Prop} {G:Prop} (T:Option Addr→Nat→World→Prop) (main:(∀s c w,P s c w→T s c w)→G) (tail:∀s c w,P s c w→T s c w):G:=main tail
theorem yzr [Dfr] {P:Program} {ops:Array Oper} {o:Oper} {a:Act} {w w':World} {K:Act→World→Prop} {Q:Exit→Act→World→Prop} {E:Prop} {v vx v':Value}
 (hg:o.guard=none) (s x:Operand) (t:TypeId) (hop:o.op=Op.call {callee:=Callee.builtin Builtin.append,args:= #[s,x],argTypes:= #[t,t]})
 (hs:a.eval s=v) (hx:a.eval x=vx) (hrun:(Builtin.append_ #[t,t] o.type #[v,vx]).run P w= .ok v' w') (hK:K (a.put o.dst v') w'):if Region.wanted o (yielded ops a.tmps)=true then Oper.wp P o a w K Q else E:=by
 have hw:Region.wanted o (yielded ops a.tmps)=true:=by simp [Region.wanted,hg]
 rw [if_pos hw];unfold Oper.wp;simp [execOp,hop,resolve,invoke,builtin,hs,hx,hrun,Result.andThen];exact hK
theorem xkf [Dfr] {G:Nat→Prop} {w:World} (n:Int) (hG:¬G w.heap.size):Cl G (w.alloc (.cells #[.int .i64 n] 3)) (.slice 3 (.int .i64)) [n] [.slice (some ⟨w.heap.size,0,none⟩) 1 1]:=by
 rw [Cl];refine ⟨_,1,rfl,Nat.le_refl _,.inr ⟨_,rfl,hG,fun i x hi=> ?_⟩⟩;cases i with
 |succ i=>simp at hi
 |zero=>
  have hi':some n=some x:=hi;cases hi';refine ⟨[.int .i64 n],rfl,fun j u hj=> ?_⟩
  match j,hj with
  |0,hj=>exact zpu w _ _ 0 u hj
theorem xdx [Dfr] {W:World} {B:Nat} {cs:Array Value} {T:TypeId} {q:Nat×Nat} (h:W.heap[B]? =some (.cells cs T q)) (j:Nat) (v:Value):(W.setCell ⟨B,j,none⟩ v).heap[B]? =some (.cells (cs.setIfInBounds j v) T q)∧Kept (fun x=>x=B) W (W.setCell ⟨B,j,none⟩ v):=by
 refine ⟨?_,rfl,rfl,rfl,?_,fun b hb hn=> ?_,Nat.le_refl _⟩
 ·show (W.heap.modify B _)[B]? =_;rw [Array.getElem?_modify,if_pos rfl,h];rfl
 ·show W.heap.size≤(W.heap.modify B _).size;rw [Array.size_modify];exact Nat.le_refl _
 ·show (W.heap.modify B _)[b]? =_;rw [Array.getElem?_modify,if_neg fun e=>hn e.symm]
theorem xgk [Dfr] {W:World} {B:Nat} {a b a' b':Value} {T:TypeId} {q:Nat×Nat} (h:W.heap[B]? =some (.cells #[a,b] T q)):((W.setCell ⟨B,0,none⟩ a').setCell ⟨B,1,none⟩ b').heap[B]? =some (.cells #[a',b'] T q)∧Kept (fun x=>x=B) W ((W.setCell ⟨B,0,none⟩ a').setCell ⟨B,1,none⟩ b'):=by obtain ⟨h1,k1⟩:=xdx h 0 a';obtain ⟨h2,k2⟩:=xdx h1 1 b';exact ⟨h2,k1.trans k2 fun _ h=>.inl h⟩
def lenOf:Value→Nat
 | .slice _ n _=>n
 |_=>0
structure FInv [Dfr] (F:Nat→Prop) (w wr:World) (B kb eb mb:Nat) (cur:Tm) (t:Tc) (ps:List Int) (og:Option Nat) (v0 v7 va:Value):Prop where
 row:Cl (ogF F og) wr (.slice 68 NdY) cur.row [v0]
 box:wr.heap[B]? =some (.cells #[va,.int .i64 t.2] 33 (0,0))
 tc:Cl (ogF F og) wr StY t.1 [va]
 own:OwnO F wr 3 (.int .i64) ps v7 og
 memo:Memo (ogF F og) wr kb eb mb
 kept:Kept (fun b=>w.heap.size≤b) w wr
 ogn:∀g,og=some g→w.heap.size≤g∧g<wr.heap.size∧g≠mb∧g≠B
 glob:zfe E (ogF F og) wr
 lt:∀b,F b→b<wr.heap.size
 bm:B≠mb
 fm:F mb
 fb:F B
theorem FInv.flt [Dfr] {F:Nat→Prop} {w wr:World} {B kb eb mb:Nat} {cur:Tm} {t:Tc} {ps:List Int} {og:Option Nat} {v0 v7 va:Value} (h:FInv F w wr B kb eb mb cur t ps og v0 v7 va):∀b,ogF F og b→b<wr.heap.size:=fun b hb=>by
 rcases hb with hb|hb
 ·exact h.lt b hb
 ·exact (h.ogn b hb).2.1
theorem FInv.step [Dfr] {F:Nat→Prop} {w wr w1:World} {B kb eb mb:Nat} {cur:Tm} {t:Tc} {ps:List Int} {og:Option Nat} {v0 v7 va:Value} (h:FInv F w wr B kb eb mb cur t ps og v0 v7 va) (hk:Kept (fun b=>b=mb) wr w1) (hm:Memo (ogF F og) w1 kb eb mb) (hb:w.heap.size≤mb):FInv F w w1 B kb eb mb cur t ps og v0 v7 va:=by
 have S:Step (ogF F og) (ogF F og) wr w1:=zbq hk fun b e=>.inl (e▸h.fm)
 exact ⟨h.row.step S,(hk.block B (Array.getElem?_eq_some_iff.1 h.box).1 h.bm).trans h.box,h.tc.step S,qds h.own S fun g e=>hk.block g (h.ogn g e).2.1 (h.ogn g e).2.2.1,hm,h.kept.trans hk fun x e=>.inl (e▸hb),fun g e=>⟨(h.ogn g e).1,Nat.lt_of_lt_of_le (h.ogn g e).2.1 hk.size,(h.ogn g e).2.2⟩,h.glob.step S,fun b e=>Nat.lt_of_lt_of_le (h.lt b e) hk.size,h.bm,h.fm,h.fb⟩
theorem FInv.plain [Dfr] {F:Nat→Prop} {w wr w1:World} {B kb eb mb:Nat} {cur:Tm} {t:Tc} {ps:List Int} {og:Option Nat} {v0 v7 va:Value} (h:FInv F w wr B kb eb mb cur t ps og v0 v7 va) (hk:Kept (fun _=>False) wr w1):FInv F w w1 B kb eb mb cur t ps og v0 v7 va:=by
 have S:Step (ogF F og) (ogF F og) wr w1:=zbq hk fun b e=>e.elim
 exact ⟨h.row.step S,(hk.block B (Array.getElem?_eq_some_iff.1 h.box).1 id).trans h.box,h.tc.step S,qds h.own S fun g e=>hk.block g (h.ogn g e).2.1 id,h.memo.kept hk,h.kept.trans hk fun x e=>e.elim,fun g e=>⟨(h.ogn g e).1,Nat.lt_of_lt_of_le (h.ogn g e).2.1 hk.size,(h.ogn g e).2.2⟩,h.glob.step S,fun b e=>Nat.lt_of_lt_of_le (h.lt b e) hk.size,h.bm,h.fm,h.fb⟩
theorem FInv.cells [Dfr] {F:Nat→Prop} {w wr:World} {B kb eb mb:Nat} {cur:Tm} {t:Tc} {ps:List Int} {og:Option Nat} {v0 v7 va:Value} (h:FInv F w wr B kb eb mb cur t ps og v0 v7 va):wr.cell? ⟨B,0,none⟩=some va∧wr.cell? ⟨B,1,none⟩=some (.int .i64 t.2):=⟨by rw [cell_of_block h.box];rfl,by rw [cell_of_block h.box];rfl⟩
theorem FInv.exp [Dfr] [zfm] [zda] [zew] [zlf] {F:Nat→Prop} {w wr:World} {B kb eb mb:Nat} {cur:Tm} {t:Tc} {ps:List Int} {og:Option Nat} {v0 v7 va:Value} (h:FInv F w wr B kb eb mb cur t ps og v0 v7 va) (hb:w.heap.size≤mb) {n:Tm} (hn:Good n) (h8:cntW n.row≤8) {v:Value} (hv:Cl (ogF F og) wr (.slice 68 NdY) n.row [v]):
 Calls Tryz.prog 83 #[v,.pointer (some ⟨kb,0,none⟩),.pointer (some ⟨eb,0,none⟩)] wr fun e w'=>∃s c,e= .returned (.slice s n.tr.length c)∧Kept (fun b=>b=mb) wr w'∧FInv F w w' B kb eb mb cur t ps og v0 v7 va∧Cl (ogF F og) w' (.slice 33 TcY) n.tr [.slice s n.tr.length c]:=by
 refine (ylg (cntW n.row+1) n hn h8 (Nat.lt_succ_self _) wr (ogF F og) v kb eb mb h.flt h.glob hv h.memo).mono ?_;rintro e w1 ⟨s,c,he,hk,hm,hcl⟩;exact ⟨s,c,he,hk,h.step hk hm hb,hcl⟩
theorem yuy [Dfr] {F:Nat→Prop} {w:World} {e:TypeId} {u:Ty} {xs:List u.den} {v:Value} {og:Option Nat} (h:OwnO F w e u xs v og):lenOf v=xs.length:=by
 cases og with
 |none=>obtain ⟨rfl,a,rfl⟩:=h;rfl
 |some g=>obtain ⟨_,cap,cur,rfl,_⟩:=h;rfl
theorem FInv.pick [Dfr] {F:Nat→Prop} {w wt w9:World} {B kb eb mb:Nat} {cur n':Tm} {t r:Tc} {ps:List Int} {og og':Option Nat} {v0 v7 va v9 vn vr:Value} {k:Int} (h:FInv F w wt B kb eb mb cur t ps og v0 v7 va) (hB:B=w.heap.size) (hb:w.heap.size≤mb) (hrow:Cl (ogF F og) wt (.slice 68 NdY) n'.row [vn]) (htc:Cl (ogF F og) wt StY r.1 [vr])
 (hown:OwnO F w9 3 (.int .i64) (ps++[k]) v9 og') (hk:Kept (fun b=>og=some b) wt w9) (hn:∀g,og'=some g→og=some g∨wt.heap.size≤g) (hl:∀g,og'=some g→g<w9.heap.size):
 FInv F w ((w9.setCell ⟨B,0,none⟩ vr).setCell ⟨B,1,none⟩ (.int .i64 r.2)) B kb eb mb n' r (ps++[k]) og' vn v9 vr:=by
 have hbx9:w9.heap[B]? =some (.cells #[va,.int .i64 t.2] 33 (0,0)):=(hk.block _ (Array.getElem?_eq_some_iff.1 h.box).1 fun e=>(h.ogn _ e).2.2.2 rfl).trans h.box;obtain ⟨b1,b2⟩:=xgk (a':=vr) (b':=.int .i64 r.2) hbx9;have hBl:=(Array.getElem?_eq_some_iff.1 h.box).1;have hmbl:=h.memo.lt.2.2;have hk2:Kept (fun b=>og=some b∨b=B) wt ((w9.setCell ⟨B,0,none⟩ vr).setCell ⟨B,1,none⟩ (.int .i64 r.2)):=(hk.yzh fun _ _ e=>.inl e).trans b2 fun _ e=>.inl (.inr e)
 have hBmem:ogF F og B:=.inl h.fb;have S:Step (ogF F og) (ogF F og') wt ((w9.setCell ⟨B,0,none⟩ vr).setCell ⟨B,1,none⟩ (.int .i64 r.2)):=⟨fun b hb hlt=>hk2.block b hlt fun e=>by
  rcases e with e|e
  ·exact hb (.inr e)
  ·exact hb (e▸hBmem),fun b hb=>by
  rcases hb with hb|hb
  ·exact .inl (.inl hb)
  ·rcases hn b hb with e|e
   ·exact .inl (.inr e)
   ·exact .inr e⟩
 have S9:Step (ogF F og') (ogF F og') w9 ((w9.setCell ⟨B,0,none⟩ vr).setCell ⟨B,1,none⟩ (.int .i64 r.2)):=zbq b2 fun b e=>.inl (e▸h.fb)
 have hogn:∀g,og'=some g→w.heap.size≤g∧g<((w9.setCell ⟨B,0,none⟩ vr).setCell ⟨B,1,none⟩ (.int .i64 r.2)).heap.size∧g≠mb∧g≠B:=fun g e=>by
  have h1:=Nat.lt_of_lt_of_le (hl g e) b2.size;rcases hn g e with e2|e2
  ·exact ⟨(h.ogn g e2).1,h1,(h.ogn g e2).2.2⟩
  ·exact ⟨by have:=h.kept.size;omega,h1,by omega,by omega⟩
 refine ⟨hrow.step S,b1,htc.step S,qds hown S9 fun g e=>b2.block g (hl g e) (hogn g e).2.2.2,h.memo.step S ?_ (.inl h.fm),h.kept.trans hk2 fun x e=> ?_,hogn,h.glob.step S,fun b e=>Nat.lt_of_lt_of_le (h.lt b e) hk2.size,h.bm,h.fm,h.fb⟩
 ·exact hk2.block mb hmbl fun e=>by
   rcases e with e|e
   ·exact (h.ogn _ e).2.2.1 rfl
   ·exact h.bm e.symm
 ·rcases e with e|e
  ·exact .inl (h.ogn _ e).1
  ·exact .inl (by omega)
set_option maxHeartbeats 6400000 in
theorem xcp [Dfr] [zfm] [zda] [zew] [zlf] {F:Nat→Prop} {w:World} {v vt:Value} {n:Tm} {t0:Tc} (hF:∀b,F b→b<w.heap.size) (hg:zfe E F w) (hc:Cl F w (.slice 68 NdY) n.row [v]) (ht:Cl F w StY t0.1 [vt]) (hn:Good n) (h8:cntW n.row≤8) (htl:t0.1.length≤1000000):
 Calls Tryz.prog 24 #[v,.agg #[vt,.int .i64 t0.2]] w fun e w'=>∃u,e= .returned (.tuple #[u,.bool (qha n.row t0).2])∧Kept (fun _=>False) w w'∧Cl F w' (.slice 3 (.int .i64)) (qha n.row t0).1 [u]:=by
 obtain ⟨ru,hru⟩:∃ru,qha n.row t0=ru:=⟨_,rfl⟩;have hres:t0∈n.tr→ru=(picks (cntW n.row+1) n.row t0,true):=fun h=>by rw [←hru,yhn ⟨qjr hn,by rw [zse hn];exact h⟩]
 have hres0:¬t0∈n.tr→ru=([],false):=fun h=>by rw [←hru,yoe (fun h2=>h (by rw [←zse hn];exact h2.2))]
 rw [hru];have hchk:=qbj n.row (by have:=hn.len;omega);rw [qjr hn] at hchk;have kB:=zcz w (Obj.cells #[vt,.int .i64 t0.2] 33);have sB:Step F F w (w.alloc (Obj.cells #[vt,.int .i64 t0.2] 33)):=zbq kB fun _ h=>h.elim
 have hFB:∀b,F b→b<(w.alloc (Obj.cells #[vt,.int .i64 t0.2] 33)).heap.size:=fun b hb=>Nat.lt_of_lt_of_le (hF b hb) kB.size
 have hbx:(w.alloc (Obj.cells #[vt,.int .i64 t0.2] 33)).heap[w.heap.size]? =some (.cells #[vt,.int .i64 t0.2] 33 (0,0)):=World.alloc_heap_new w _;obtain ⟨s,c,rfl⟩:=zen hc;obtain ⟨st,ct,rfl⟩:=zen ht;go_enter Tryz.func24,Tryz.ntmps24;go_wp2_with (go_at_fn 47);refine (qhh hchk hFB (hg.step sB) (hc.step sB)).mono ?_;rintro e w1 ⟨rfl,hk1⟩;have hF1:∀b,F b→b<w1.heap.size:=fun b hb=>Nat.lt_of_lt_of_le (hFB b hb) hk1.size
 go_wp2_with (go_at_fn 49);have hBl:w.heap.size<w1.heap.size:=Nat.lt_of_lt_of_le (Array.getElem?_eq_some_iff.1 hbx).1 hk1.size;refine (qfi (F:=fun b=>F b∨b=w.heap.size) (fun b hb=>by
  rcases hb with hb|rfl
  ·exact hF1 b hb
  ·exact hBl)).mono ?_
 rintro e w2 ⟨kb,eb,mb,rfl,hk2,hmb,hm2⟩;have hk02:Kept (fun _=>False) w w2:=(kB.trans hk1 fun _ h=>h.elim).trans hk2 fun _ h=>h.elim
 obtain ⟨F2,hF2⟩:∃F2:Nat→Prop,(fun b=>(F b∨b=w.heap.size)∨b=mb)=F2:=⟨_,rfl⟩;have hF2i:∀b,F2 b↔(F b∨b=w.heap.size)∨b=mb:=fun b=>by rw [←hF2]
 have s2:Step F (ogF F2 none) w w2:=⟨fun b hb hlt=>hk02.block b hlt id,fun b hb=>by
  rcases hb with hb|hb
  ·rw [hF2i] at hb;rcases hb with (hb|rfl)|rfl
   ·exact .inl hb
   ·exact .inr (Nat.le_refl _)
   ·exact .inr (by omega)
  ·cases hb⟩
 have hmm:Memo (ogF F2 none) w2 kb eb mb:=hm2.step ⟨fun b hb hlt=>rfl,fun b hb=>by
  rcases hb with hb|hb
  ·exact .inl ((hF2i b).1 hb)
  ·cases hb⟩ rfl (.inl ((hF2i mb).2 (.inr rfl)))
 have hI:FInv F2 w w2 w.heap.size kb eb mb n t0 [] none (.slice s n.row.length c) (.slice none 0 0) (.slice st t0.1.length ct):=by
  refine ⟨hc.step s2,(hk2.block _ hBl id).trans ((hk1.block _ (Array.getElem?_eq_some_iff.1 hbx).1 id).trans hbx),ht.step s2,⟨rfl,none,rfl⟩,hmm,zof hk02,fun g h=>(by cases h),hg.step s2,fun b hb=> ?_,by omega,(hF2i mb).2 (.inr rfl),(hF2i _).2 (.inl (.inr rfl))⟩;rw [hF2i] at hb;rcases hb with (hb|rfl)|rfl
  ·exact Nat.lt_of_lt_of_le (hF b hb) hk02.size
  ·exact Nat.lt_of_lt_of_le hBl hk2.size
  ·exact hm2.lt.2.2
 clear hmm s2 hm2 hbx kB sB;go_wp2;go_loopw [0,7] (fun v0 v7 wr=>∃(cur:Tm) (t:Tc) (ps:List Int) (og:Option Nat) (va:Value) (cc:Nat),FInv F2 w wr w.heap.size kb eb mb cur t ps og v0 v7 va∧Good cur∧cntW cur.row<cc∧ps.length+cntW cur.row≤8∧t.1.length≤1000000∧(t0∈n.tr↔t∈cur.tr)∧ps++picks cc cur.row t=picks (cntW n.row+1) n.row t0) (fun _ v7 _=>9-lenOf v7)
 case atStart=>exact ⟨n,t0,[],none,_,cntW n.row+1,hI,hn,Nat.lt_succ_self _,by simpa using h8,htl,Iff.rfl,rfl⟩
 case round=>
  obtain ⟨cur,t,ps,og,va,cc,hI,hcur,hcc,h8,htl,hiff,hpk⟩:=hrel;have hId:=hI.plain (Kept.refl (fun _=>False) wr).drew;have hmb':w.heap.size≤mb:=by omega
  have hex:=hId.exp hmb' hcur (by omega) hId.row;obtain ⟨hb0,hb1⟩:=hId.cells;have hsh:zwz cur.tr:=fewT.short fun x hx=>Nat.le_trans (zcl hcur.2.2.2 x hx) (by decide)
  have hln:=qzk hcur (by omega);have hHas:zwj cur.tr t=some (decide (t∈cur.tr)):=qpw _ _ (by omega) hsh;obtain ⟨sv,cv,rfl⟩:=zen hId.tc;go_wp2;apply xjf (P:=fun sT cT w4=>FInv F2 w w4 w.heap.size kb eb mb cur t ps og u0 u7 (.slice sv t.1.length cv))
  case main=>
   intro tail;go_region_with (first
    |(go_at_call 83;refine hex.mono ?_;rintro e w3 ⟨sT,cT,rfl,hk3,hI3,hc3⟩;obtain ⟨hb30,hb31⟩:=hI3.cells)
    |(go_at_call 33;refine (yhk hHas hI3.flt hI3.glob hc3 hI3.tc).mono ?_;rintro e w4 ⟨rfl,hk4⟩))
   all_goals exact tail sT cT w4 (hI3.plain hk4)
  case tail=>
   intro sT cT w4 hI4;clear hex hb0 hb1 hId;have hFno:∀g,og=some g→¬F2 g:=fun g hgo hf=>by
    obtain ⟨g1,g2,g3,g4⟩:=hI4.ogn g hgo;rw [hF2i] at hf;rcases hf with (hf|hf)|hf
    ·have:=hF g hf;omega
    ·exact g4 hf
    ·exact g3 hf
   have hkend:∀wr,Kept (fun b=>w.heap.size≤b) w wr→Kept (fun _=>False) w wr:=fun wr hk=>hk.yzh fun b h1 h2=>by omega
   by_cases hm:t∈cur.tr
   ·cases ho:cur.zhq with
    |true=>
     obtain ⟨s',rfl⟩:∃s',cur= .over s':=by cases cur<;>first|exact ⟨_,rfl⟩|cases ho
     have hE:zfp (Tm.over s').row=some (s',true):=zjo (.over s');have hrr:=hres (hiff.2 hm);rw [←hpk,qxq,List.append_nil] at hrr;subst hrr;go_wp2_with (go_at_fn 44);refine (zzr hE hI4.flt hI4.glob hI4.row).mono ?_;rintro e w5 ⟨rfl,hk5⟩;have hI5:=hI4.plain hk5;go_wp2;go_ret2;exact ⟨_,rfl,hkend _ hI5.kept,Cl.lift (fun b hb=>(hF2i b).2 (.inl (.inl hb))) (xez hI5.own hFno)⟩
    |false=>
     have hE:zfp cur.row=some (0,false):=by rw [zjo cur];cases cur<;>first|rfl|cases ho
     have hlen:=hcur.len;have hL:=qlx cur.row;go_wp2_with (go_at_fn 44);refine (zzr hE hI4.flt hI4.glob hI4.row).mono ?_;rintro e w5 ⟨rfl,hk5⟩;have hI5:=hI4.plain hk5;go_wp2_with (go_at_fn 28);refine (qjv (zku cur.row (by omega)) hI5.flt hI5.glob hI5.row).mono ?_;rintro e w6 ⟨sM,cM,rfl,hk6,hcM⟩;have hI6:=hI5.plain hk6;go_wp2;go_loopw [0,7,36] (fun v0 v7 v36 wi=>∃k:Nat,v0=u0∧v7=u7∧v36= .int .i64 (k:Int)∧k≤(enL cur.row).length∧FInv F2 w wi w.heap.size kb eb mb cur t ps og u0 u7 (.slice sv t.1.length cv)∧Kept (fun b=>b=mb) w6 wi∧∀j,(hj:j<(enL cur.row).length)→j<k→¬hitR cur.row t (enL cur.row)[j]) (fun _ _ v36 _=>(enL cur.row).length-(intOf v36).toNat)
     case atStart=>exact ⟨0,rfl,rfl,rfl,Nat.zero_le _,hI6,Kept.refl _ _,fun j _ h=>absurd h (Nat.not_lt_zero _)⟩
     case round=>
      obtain ⟨k,e0,e7,rfl,hk,hIi,hki,hno⟩:=hrel;subst e0;subst e7;by_cases hlt:k<(enL cur.row).length
      ·obtain ⟨ab,ao,hix,hab,hc0,hc1⟩:=xkc (hcM.step (zbq hki fun b e=>.inl (e▸hI6.fm))) hlt;have hmem:(enL cur.row)[k]∈enL cur.row:=List.getElem_mem hlt;obtain ⟨mv,hmv⟩:∃mv,(enL cur.row)[k]=mv:=⟨_,rfl⟩;rw [hmv] at hmem hc0 hc1;obtain ⟨n',e1,e2,hg',hcnt,hst,hsz',_⟩:=qjq hcur hmem;obtain ⟨nm,hnmE⟩:∃nm,(zge cur.row mv).2.1=nm:=⟨_,rfl⟩;have hN:zsq cur.row mv=some (n'.row,nm,0):=by rw [qfw cur.row mv (by omega)];exact congrArg some (Prod.ext e1 (Prod.ext hnmE e2))
       go_wp2_with (go_at_fn 41);obtain ⟨WA,hWA⟩:∃WA,wr.alloc (Obj.cells #[Value.int IntKind.i64 mv.1,Value.int IntKind.i64 mv.2] 71)=WA:=⟨_,rfl⟩;have kA:Kept (fun _=>False) wr WA:=hWA▸zcz wr _;have hIA:=hIi.plain kA;rw [hWA];refine (qxt hN hIA.flt hIA.glob hIA.row).mono ?_;rintro e w7 ⟨sN,cN,rfl,hk7,hcN⟩;have hI7:=hIA.plain hk7;have hkA7:Kept (fun b=>b=mb) w6 w7:=hki.trans (kA.trans hk7 fun _ h=>h.elim) fun x h=>h.elim
       clear hWA hix hc0 hc1 kA hIA hk7;obtain ⟨hb0,hb1⟩:=hI7.cells;obtain ⟨⟨r,rb⟩,hr⟩:∃r,qio t nm=r:=⟨_,rfl⟩;have hrs:=yjh t nm (by omega);rw [hr] at hrs;go_wp2_with (go_at_fn 52);refine (ypv hrs hI7.flt hI7.glob hI7.tc).mono ?_;rintro e w8 ⟨sR,cR,rfl,hk8,hcR⟩;have hI8:=hI7.plain hk8;go_wp2;obtain ⟨W9,hW9⟩:∃W9,w8.alloc (Obj.cells #[Value.slice sR r.1.length cR,Value.int IntKind.i64 r.2] 33)=W9:=⟨_,rfl⟩;have k9:Kept (fun _=>False) w8 W9:=hW9▸zcz w8 _;have hI9:=hI8.plain k9;have hbx9:W9.heap[w8.heap.size]? =some (.cells #[.slice sR r.1.length cR,.int .i64 r.2] 33 (0,0)):=by rw [←hW9];exact World.alloc_heap_new w8 _
       rw [hW9];have hk69:Kept (fun b=>b=mb) w6 W9:=hkA7.trans (hk8.trans k9 fun _ h=>h.elim) fun x h=>h.elim
       have hcN9:=hcN.step (zbq (hk8.trans k9 fun _ h=>h.elim) fun _ h=>h.elim);have hcR9:=hcR.step (zbq k9 fun _ h=>h.elim);have hmb8:mb<w8.heap.size:=hI8.memo.lt.2.2;have hog8:∀g,og=some g→g<w8.heap.size:=fun g h=>(hI8.ogn g h).2.1
       have hB8:w.heap.size<w8.heap.size:=(Array.getElem?_eq_some_iff.1 hI8.box).1;clear hW9 hkA7 hb0 hb1 hI7 hI8 hk8 k9;cases rb with
       |false=>
        first|(go_region_with fail)|fail
        all_goals
         go_wp2;refine ⟨⟨k+1,rfl,rfl,by go_num,by omega,hI9.plain (Kept.refl (fun _=>False) W9).drew,hk69.drew,fun j hj hjk=> ?_⟩,by simp [intOf];omega⟩;rcases Nat.lt_or_eq_of_le (Nat.le_of_lt_succ hjk) with h|h
         ·exact hno j hj h
         ·subst h;rw [hmv];intro hh;have h2:=hh.1;rw [hnmE,hr] at h2;cases h2
       |true=>
        have hId:=hI9.plain (Kept.refl (fun _=>False) W9).drew;have hex:=hId.exp hmb' hg' (by omega) (hcN9.step (zbq (Kept.refl (fun _=>False) W9).drew fun _ h=>h.elim));have hb50:W9.drew.cell? ⟨w8.heap.size,0,none⟩=some (.slice sR r.1.length cR):=by rw [cell_of_block (show W9.drew.heap[w8.heap.size]? =_ from hbx9)];rfl
        have hb51:W9.drew.cell? ⟨w8.heap.size,1,none⟩=some (.int .i64 r.2):=by rw [cell_of_block (show W9.drew.heap[w8.heap.size]? =_ from hbx9)];rfl
        have hsh':zwz n'.tr:=fewT.short fun x hx=>Nat.le_trans (zcl hg'.2.2.2 x hx) (by decide)
        have hln':=qzk hg' (by omega);have hHas':zwj n'.tr r=some (decide (r∈n'.tr)):=qpw _ _ (by omega) hsh';have hS3:∀w3,Kept (fun b=>b=mb) W9.drew w3→Step (ogF F2 og) (ogF F2 og) W9 w3:=fun w3 hk=>zbq (Kept.trans (Kept.refl _ W9).drew hk fun _ h=>.inl h) fun b e=>.inl (e▸hI9.fm)
        apply xjf (P:=fun sT cT w4=>FInv F2 w w4 w.heap.size kb eb mb cur t ps og _ _ (.slice sv t.1.length cv)∧w4.cell? ⟨w8.heap.size,0,none⟩=some (.slice sR r.1.length cR)∧w4.cell? ⟨w8.heap.size,1,none⟩=some (.int .i64 r.2)∧Cl (ogF F2 og) w4 StY r.1 [.slice sR r.1.length cR]∧Cl (ogF F2 og) w4 (.slice 68 NdY) n'.row [.slice sN n'.row.length cN]∧Kept (fun b=>b=mb) w6 w4)
        case main=>
         intro tail;go_region_with (first
          |(go_at_call 83;refine hex.mono ?_;rintro e w3 ⟨sT,cT,rfl,hk3,hI3,hc3⟩;have hb30:=zds hk3 (fun h=>by simp only at h;omega) hb50;have hb31:=zds hk3 (fun h=>by simp only at h;omega) hb51)
          |(go_at_call 33;refine (yhk hHas' hI3.flt hI3.glob hc3 (hcR9.step (hS3 w3 hk3))).mono ?_;rintro e w4 ⟨rfl,hk4⟩))
         all_goals exact tail sT cT w4 ⟨hI3.plain hk4,zds hk4 id hb30,zds hk4 id hb31,(hcR9.step (hS3 w3 hk3)).step (zbq hk4 fun _ h=>h.elim),(hcN9.step (hS3 w3 hk3)).step (zbq hk4 fun _ h=>h.elim),(hk69.drew.trans hk3 fun _ h=>.inl h).trans hk4 fun _ h=>h.elim⟩
        case tail=>
         rintro sT2 cT2 wt ⟨hIt,hbt0,hbt1,hcRt,hcNt,hkt⟩;by_cases hr2:r∈n'.tr
         ·obtain ⟨wd,hwd⟩:∃wd,wt.drew=wd:=⟨_,rfl⟩;have kd:Kept (fun _=>False) wt wd:=hwd▸(Kept.refl (fun _=>False) wt).drew;obtain ⟨wl,hwl⟩:∃wl,(wt.alloc (Obj.cells #[Value.int IntKind.i64 (k:Int)] 3)).drew=wl:=⟨_,rfl⟩;have hwl2:wd.alloc (Obj.cells #[Value.int IntKind.i64 (k:Int)] 3)=wl:=by rw [←hwd];exact hwl
          have kl:Kept (fun _=>False) wd wl:=hwl2▸zcz wd _;have hId2:=hIt.plain kd;have hIl:=hId2.plain kl;have hlit:Cl (ogF F2 og) wl (.slice 3 (.int .i64)) [(k:Int)] [.slice (some ⟨wt.heap.size,0,none⟩) 1 1]:=by rw [←hwl2,show wt.heap.size=wd.heap.size from by rw [←hwd];rfl];exact xkf _ fun h=>Nat.lt_irrefl _ (hId2.flt _ h)
          obtain ⟨v9,w9,og',hrun,hown9,hk9,hn9,hl9⟩:=qxs (tt:=23) (ty:=23) (e:=3) (u:=.int .i64) rfl rfl rfl rfl (fun b hb=>⟨hIl.lt b hb,fun h=>hFno b h hb⟩) (fun g h=>(hIl.ogn g h).2.1) hIl.glob hIl.own hlit (room (by simp;omega));have hcd0:=zds kd id hbt0;have hcd1:=zds kd id hbt1;have hcl0:=zds kl id hcd0;have hcl1:=zds kl id hcd1;have hw8:∀g,og=some g→g≠w8.heap.size:=fun g h=>Nat.ne_of_lt (hog8 g h)
          have hc90:=zds hk9 (fun h=>hw8 _ h rfl) hcl0;have hc91:=zds hk9 (fun h=>hw8 _ h rfl) hcl1;have hbx9':w9.heap[w.heap.size]? =some (.cells #[.slice sv t.1.length cv,.int .i64 t.2] 33 (0,0)):=(hk9.block _ (Array.getElem?_eq_some_iff.1 hIl.box).1 fun h=>(hIl.ogn _ h).2.2.2 rfl).trans hIl.box;have hst0:w9.cell? ⟨w.heap.size,0,none⟩=some (.slice sv t.1.length cv):=by rw [cell_of_block hbx9'];rfl
          have hst1:w9.cell? ⟨w.heap.size,1,none⟩=some (.int .i64 t.2):=by rw [cell_of_block hbx9'];rfl
          have hfr0:w9.frozen? ⟨w.heap.size,0,none⟩=false:=by simp [World.frozen?,hbx9']
          have hfr1:w9.frozen? ⟨w.heap.size,1,none⟩=false:=by simp [World.frozen?,hbx9']
          obtain ⟨c',rfl⟩:∃c',cc=c'+1:=⟨cc-1,by omega⟩;have hhit:hitR cur.row t (enL cur.row)[k]:=by rw [hmv];exact ⟨by rw [hnmE,hr],by rw [hnmE,hr,e1,zse hg'];exact hr2⟩
          have hpa:=ybx (c:=c') hlt hhit fun j hj=>hno j (by omega) hj
          rw [hmv,hnmE,hr,e1] at hpa;have hpk9:(ps++[(k:Int)])++picks c' n'.row r=picks (cntW n.row+1) n.row t0:=by rw [←hpk,hpa,List.append_assoc];rfl
          have hlen9:(ps++[(k:Int)]).length+cntW n'.row≤8:=by rw [List.length_append,List.length_singleton];omega
          have hrl:r.1.length≤t.1.length:=by have:=ytz (t:=t) (nm:=nm);rw [hr] at this;exact this
          have hpick:=hIt.pick rfl hmb' hcNt hcRt hown9 ((zof (G:=fun b=>og=some b) (kd.trans kl fun _ h=>h.elim)).trans hk9 fun _ h=>.inl h) (fun g h=>(hn9 g h).imp id fun h2=>Nat.le_trans (kd.trans kl fun _ h=>h.elim).size h2) hl9;go_wp2;clear hwl2;subst hwl;subst hwd;go_region_law (refine yzr rfl _ _ 23 rfl rfl rfl hrun ?_)
          all_goals
           go_wp2;exact ⟨⟨n',r,ps++[(k:Int)],og',_,c',hpick,hg',by omega,hlen9,Nat.le_trans hrl htl,⟨fun _=>hr2,fun _=>hiff.2 hm⟩,hpk9⟩,by rw [yuy hown9,yuy hIt.own];simp;omega⟩
         ·go_wp2;refine ⟨⟨k+1,rfl,rfl,by go_num,by omega,hIt,hkt,fun j hj hjk=> ?_⟩,by simp [intOf];omega⟩;rcases Nat.lt_or_eq_of_le (Nat.le_of_lt_succ hjk) with h|h
          ·exact hno j hj h
          ·subst h;rw [hmv];intro hh;have h2:=hh.2;rw [hnmE,hr,e1,zse hg'] at h2;exact hr2 h2
      ·exfalso;have hke:k=(enL cur.row).length:=by omega
       obtain ⟨mv,h1,h2⟩:=(xkj hcur ho).1 hm;obtain ⟨j,hj,e⟩:=List.getElem_of_mem h1;exact hno j hj (by omega) (by rw [e];exact h2)
   ·have hrr:=hres0 fun h=>hm (hiff.1 h)
    subst hrr;go_wp2;go_ret2;refine ⟨_,rfl,hkend _ hI4.kept,?_⟩;rw [Cl];exact ⟨none,0,rfl,Nat.le_refl _,.inl rfl⟩
open Go Go.Sv Go.Proofs Go.Rd
theorem qie [Dfr] (a b:List ByteArray) (h:a.length≤4611686018427387904):dyn E ⟨zgj,[]⟩ [zep (.slice 9 .str) a,zep (.slice 9 .str) b] .bool=some (decide (cmpA a b= .eq)):=
 (zwt a b).trans ((qan a b h).trans (congrArg some (decide_eq_decide.2 (ordA.eq a b).symm)))
theorem qef [Dfr] (a b:List ByteArray) (h:a.length≤4611686018427387904):dyn E ⟨zfi,[]⟩ [zep (.slice 9 .str) a,zep (.slice 9 .str) b] (.int .i64)=some (ordN (cmpA a b)):=
 (ztx a b).trans (znj a b h)
theorem yqk [Dfr] (ys:List (List ByteArray)) (hy:ys.length≤1000000) (hs:∀y∈ys,y.length≤1000000):ycd ys=some (canon cmpA ys):=by unfold ycd;simp only [Option.bind_fun_some];exact qbc (u:=.slice 9 .str) ordA (by omega) (fun x hx y _=>qef x y (by have:=hs x hx;omega)) (fun x hx y _=>qie x y (by have:=hs x hx;omega))
theorem qjo [Dfr] (w:World) (o:Obj) (b:Nat) (h:b<w.heap.size):(w.alloc o).heap[b]? =w.heap[b]? :=by show (w.heap.push o)[b]? =_;rw [Array.getElem?_push,if_neg (by omega)]
set_option maxHeartbeats 4000000 in
theorem qne [Dfr] [zfm] (p q:List ByteArray) (r:List (List ByteArray)) (h:qdu p q=some r):zdw Tryz.prog E 180 (p,q) r:=by
 unfold qdu at h;split at h
 ·rename_i hc;obtain ⟨hc1,hc2⟩:=hc;cases h;have hys:∀y∈zij [] p q,y.length≤1000000:=fun y hy=>by obtain ⟨r,e,hr⟩:=zxj.1 hy;have:=hr.len;rw [e];simp;omega
  obtain ⟨k,hk⟩:=((ygx (zij [] p q)).iff _).1 (yqk _ hc2 hys);have hev:=(xkd k k (zij [] p q)).trans hk;intro w F0 G A vs hA;obtain ⟨v0,v1,rfl,h0,h1⟩:∃v0 v1,vs=[v0,v1]∧Cl (A.F F0) w (.slice 9 .str) p [v0]∧Cl (A.F F0) w (.slice 9 .str) q [v1]:=by
   have hr:=hA.rel;cases hr with
   |cons a hr=>cases hr with
    |cons b hr=>cases hr;exact ⟨_,_,rfl,a,b⟩
  refine calls_of_wp Tryz.func180 rfl ?_;simp only [Tryz.ntmps180,List.size_toArray,List.length_cons,List.length_nil,Nat.reduceAdd,Nat.reduceSub,Array.replicate_succ,Array.replicate_zero,List.push_toArray,List.append_toArray,List.nil_append,List.cons_append];have hbx:Boxed ((w.alloc (.cells #[.slice none 0 0] 184)).alloc (.cells #[.nilFunc] 222)) (w.heap.size+1) 222 .nilFunc:=by
   have:=Boxed.new (w.alloc (.cells #[.slice none 0 0] 184)) 222 .nilFunc
   rwa [World.size_alloc] at this
  have hsf:=fun (a:Addr) (c:Array Value) (w:World)=>run_store Tryz.prog w a (.func (.func 226) #[] c) .plain rfl
  have hb1:=hbx.cell;have hb2:=hbx.frozen;go_wp2_with fail;clear hb1 hb2 hsf;rename_i K1 hK1 K2 hK2;have hlt:∀b,A.F F0 b→b<w.heap.size:=fun b hb=>by
   rcases hb with hb|⟨d,hb⟩|⟨n,l,hb⟩
   ·exact (hA.f0 b hb).1
   ·rw [hA.bx] at hb;cases hb
   ·exact (hA.tgm n b l hb).2
  obtain ⟨W0,hW0⟩:∃W0,(w.alloc (Obj.cells #[Value.slice none 0 0] 184)).alloc (Obj.cells #[zhh 226 w.heap.size (w.heap.size+1)] 222)=W0:=⟨_,rfl⟩;have hs0:W0.heap.size=w.heap.size+2:=by rw [←hW0];simp
  have hbo:W0.heap[w.heap.size]? =some (.cells #[.slice none 0 0] 184 (0,0)):=by rw [←hW0];exact (qjo _ _ _ (by simp)).trans (World.alloc_heap_new w _)
  have hbr:W0.cell? ⟨w.heap.size+1,0,none⟩=some (zhh 226 w.heap.size (w.heap.size+1)):=by rw [←hW0];have:=Boxed.new (w.alloc (.cells #[.slice none 0 0] 184)) 222 (zhh 226 w.heap.size (w.heap.size+1));rw [World.size_alloc] at this;exact this.cell
  have hk0:Kept G w W0:=by refine ⟨by rw [←hW0];rfl,by rw [←hW0];rfl,by rw [←hW0];rfl,by omega,fun b hb _=> ?_,by rw [←hW0];exact Nat.le_refl _⟩;rw [←hW0];exact (qjo _ _ _ (by simp;omega)).trans (qjo _ _ _ hb)
  let F:Nat→Prop:=fun b=>A.F F0 b∨b=w.heap.size
  have S0:Step (A.F F0) F w W0:=⟨fun b _ hb=>by rw [←hW0];exact (qjo _ _ _ (by simp;omega)).trans (qjo _ _ _ hb),fun b hb=>hb.imp id fun e=>by omega⟩;have hH:((zyp (zme [] p q)).bind fun x=>mixH (p.length+q.length+1) x.1 x.2.1 x.2.2 ([]:List (List ByteArray)))=some ([]++zij [] p q):=by show mixH (p.length+q.length+1) [] p q []=_;unfold mixH;rw [if_pos ⟨by omega,by simp;omega,by simp;omega⟩]
  have hcalls:=(ytj (p.length+q.length+1)).runs (zme [] p q) [] _ hH W0 F w.heap.size (w.heap.size+1) (.slice none 0 0) [.slice none 0 0,v0,v1] none
   (fun b hb=>by rcases hb with hb|rfl;have:=hlt b hb;omega;omega) (.inr rfl) (fun _ _ h=>by cases h) hbo ⟨rfl,none,rfl⟩
   (fun h=>by rcases h with h|h;have:=hlt _ h;omega;omega) hbr (hA.glob.step S0) (.cons ⟨none,0,rfl,Nat.le_refl _,.inl rfl⟩ (.cons (h0.step S0) (.cons (h1.step S0) .nil)))
  refine (hW0▸hcalls).mono ?_;rintro en w' ⟨rfl,hkept,so',own',hheap',hrow',hown'⟩;rw [hW0] at hkept hown';refine hK2 _ _ (hK1 _ _ ?_);clear hK1 hK2 hcalls
  let X:Ctx:={P:=Tryz.prog,E:=E,W:=w,G:=G,F0:=F0,n:=16}
  let A4:Fr:=⟨fun d=>if d=5 then some w.heap.size else none,fun m=>if m=320 then own' else none⟩
  have hbx:∀d b,A4.bx d=some b→d=5∧b=w.heap.size:=fun d b h=>by
   simp only [A4] at h;split at h
   ·cases h;exact ⟨‹_›,rfl⟩
   ·cases h
  have htg:∀m b l,A4.tg m=some (b,l)→m=320∧own'=some (b,l):=fun m b l h=>by
   simp only [A4] at h;split at h
   ·exact ⟨‹_›,h⟩
   ·cases h
  have hnew:∀go l,own'=some (go,l)→go<w'.heap.size∧W0.heap.size≤go:=fun go l h=>by
   obtain ⟨h1,h2⟩:=hown' go l h;rcases h2 with ⟨l0,h2⟩|h2
   ·cases h2
   ·exact ⟨h1,h2⟩
  have hk1:Kept G w w':=hk0.trans hkept fun b hb=>by
   rcases hb with rfl|⟨l,hb⟩
   ·exact .inr (Nat.le_refl _)
   ·cases hb
  have hsz:=hkept.size;have hXF:∀b,X.F A4 b→F0 b∨b=w.heap.size∨∃l,own'=some (b,l):=fun b hb=>by
   rcases hb with hb|⟨d,hb⟩|⟨m,l,hb⟩
   ·exact .inl hb
   ·exact .inr (.inl (hbx d b hb).2)
   ·exact .inr (.inr ⟨l,(htg m b l hb).2⟩)
  have S1:Step (A.F F0) (X.F A4) w w':=⟨fun b hb hl=>(hkept.block b (by omega) fun h=>by
   rcases h with h|⟨l,h⟩
   ·omega
   ·cases h).trans (S0.keep b hb hl),fun b hb=>by
   rcases hXF b hb with hb|hb|⟨l,hb⟩
   ·exact .inl (.inl hb)
   ·exact .inr (by omega)
   ·have:=(hnew b l hb).2;exact .inr (by omega)⟩
  have hso:RC (X.F A4) A4 w' (.slice 26 (.slice 9 .str) (zij [] p q) (.own 320)) so':=by
   cases ho':own' with
   |none=>rw [ho'] at hrow';exact .inl ⟨by simp [A4,ho'],hrow'.1,hrow'.2⟩
   |some z=>
    obtain ⟨go,l⟩:=z;rw [ho'] at hrow';refine .inr ⟨go,l,by simp [A4,ho'],hrow'.2.step ⟨fun _ _ _=>rfl,fun b hb=>.inl ?_⟩ rfl⟩;rcases hXF b hb with hb|hb|⟨l2,hb⟩
    ·exact .inl ⟨.inl (.inl hb),fun _ h=>by cases h⟩
    ·exact .inl ⟨.inr hb,fun _ h=>by cases h⟩
    ·exact .inr ⟨l2,by rw [←ho'];exact hb⟩
  have hinv:Inv X A4 ⟨[(5,.sv (.one (.box 5 0)))],[(5,(184,[.slice 26 (.slice 9 .str) (zij [] p q) (.own 320)]))]⟩ #[v0,v1,undef,undef,.slice none 0 0,.pointer (some {block:=w.heap.size,off:=0}),.pointer (some {block:=w.heap.size+1,off:=0}),
   zhh 226 w.heap.size (w.heap.size+1),zhh 226 w.heap.size (w.heap.size+1),v0,v1,.tuple #[],undef,undef,undef,undef] w':=by
   have hslot:∀i,RP (X.F A4) A4 w' (St.get ⟨[(5,.sv (.one (.box 5 0)))],[(5,(184,[.slice 26 (.slice 9 .str) (zij [] p q) (.own 320)]))]⟩ i) ((#[v0,v1,undef,undef,.slice none 0 0,.pointer (some {block:=w.heap.size,off:=0}),.pointer (some {block:=w.heap.size+1,off:=0}),
    zhh 226 w.heap.size (w.heap.size+1),zhh 226 w.heap.size (w.heap.size+1),v0,v1,.tuple #[],undef,undef,undef,undef]:Array Value).getD i undef):=fun i=>by
    match i with
    |0|1|2|3|4=>trivial
    |5=>exact ⟨w.heap.size,by simp [A4],rfl⟩
    |i+6=>trivial
   refine ⟨rfl,hk1,hA.glob.step S1,hslot,fun d t cs hd=> ?_,?_,fun z hz=> ?_⟩
   ·simp only [getB] at hd;cases hb5:Nat.beq 5 d with
    |true=>have:=Nat.eq_of_beq_eq_true hb5;subst this;simp only [hb5,cond_true,Option.some.injEq,Prod.mk.injEq] at hd;obtain ⟨rfl,rfl⟩:=hd;exact ⟨w.heap.size,#[so'],by simp [A4],hheap',.cons hso .nil⟩
    |false=>simp [hb5] at hd
   ·refine ⟨fun d b h=> ?_,fun m b l h=> ?_,fun d d' b h h'=> ?_,fun m m' b l l' h h'=> ?_,fun d m b l h h'=> ?_,fun b hb=>hA.f0 b hb⟩
    ·obtain ⟨_,rfl⟩:=hbx d b h;exact ⟨.inl (Nat.le_refl _),by omega⟩
    ·have:=hnew b l (htg m b l h).2;exact ⟨.inl (show w.heap.size≤b by omega),this.1⟩
    ·rw [(hbx d b h).1,(hbx d' b h').1]
    ·rw [(htg m b l h).1,(htg m' b l' h').1]
    ·have h3:=(hbx d b h).2;have:=(hnew b l (htg m b l h').2).2;omega
   ·rw [List.mem_singleton] at hz;subst hz;exact ⟨_,hslot 5⟩
  obtain ⟨e,σ',hend,hcode⟩:=(qlv (X:=X) (run:=run E k) (fuel:=k) (f:=180) tab (zqd qwp k) yvm (by kernel_rfl) 0 _ _ _).1 hev;refine hcode A4 ⟨_,[]⟩ w' _ hinv rfl fun A' a' w'' hi' hd'=> ?_
  have fin:qip E σ' [.tmp 4] [184] (E.sig 180).res=some (mixS p q)→a'.defers=[]∧∃v,(results Tryz.f180 a'.tmps).run Tryz.prog w''= .ok v w''∧Sv.Returns G F0 w (E.sig 180).res (mixS p q) (.returned v) w'':=fun hres=>by obtain ⟨v,hv,hd⟩:=zyt (X:=X) (fn:=Tryz.f180) (tys:=[184]) (ks:=(E.sig 180).res) (r:=mixS p q) tab.types hi' hres;exact ⟨hd',v,hv,v,rfl,hi'.kept,hd⟩
  cases e with
  |normal=>exact fin hend
  |ret=>exact fin hend
  |exit id=>cases hend
  |goto l=>cases hend
 ·cases h
def qop (l:List Nd) (i:Nat):Nat:=(arI (l.getD i default).1).toNat
theorem qpp [Dfr] (l:List Nd):∀(t:T) (i:Nat) (r:List Nd),t.ok→l.drop i=t.row++r→t.yrh (qop l) i∧∀j,i≤j→j<i+t.size→qop l j≤2∧arI (l.getD j default).1=(qop l j:Int)
 | .n0 n,i,r,h,e=>by
   have h0:l.getD i default=n:=by
    have:l[i]? =some n:=by rw [←List.head?_drop,e];rfl
    rw [List.getD_eq_getElem?_getD,this];rfl
   have ha:arI n.1=0:=by unfold arI;rw [show ar n.1=some 0 from h];rfl
   have h1:qop l i=0:=by unfold qop;rw [h0,ha];rfl
   refine ⟨h1,fun j h2 h3=> ?_⟩;simp only [T.size] at h3;have:j=i:=by omega
   subst this;rw [h1,h0,ha];exact ⟨by omega,rfl⟩
 | .n1 n a,i,r,h,e=>by
   have h0:l.getD i default=n:=by
    have:l[i]? =some n:=by rw [←List.head?_drop,e];rfl
    rw [List.getD_eq_getElem?_getD,this];rfl
   have ha:arI n.1=1:=by unfold arI;rw [show ar n.1=some 1 from h.1];rfl
   have h1:qop l i=1:=by unfold qop;rw [h0,ha];rfl
   obtain ⟨i1,i2⟩:=qpp l a (i+1) r h.2 (by rw [←List.drop_drop,e];rfl);refine ⟨⟨h1,i1⟩,fun j h2 h3=> ?_⟩;simp only [T.size] at h3;by_cases hj:j=i
   ·subst hj;rw [h1,h0,ha];exact ⟨by omega,rfl⟩
   ·exact i2 j (by omega) (by omega)
 | .n2 n a b,i,r,h,e=>by
   have h0:l.getD i default=n:=by
    have:l[i]? =some n:=by rw [←List.head?_drop,e];rfl
    rw [List.getD_eq_getElem?_getD,this];rfl
   have ha:arI n.1=2:=by unfold arI;rw [show ar n.1=some 2 from h.1];rfl
   have h1:qop l i=2:=by unfold qop;rw [h0,ha];rfl
   have e1:l.drop (i+1)=a.row++(b.row++r):=by rw [←List.drop_drop,e];simp [T.row]
   have e2:l.drop (i+1+a.size)=b.row++r:=by rw [←List.drop_drop,e1,←T.zab a,List.drop_left]
   obtain ⟨i1,i2⟩:=qpp l a (i+1) _ h.2.1 e1;obtain ⟨i3,i4⟩:=qpp l b (i+1+a.size) r h.2.2 e2;refine ⟨⟨h1,i1,i3⟩,fun j h2 h3=> ?_⟩;simp only [T.size] at h3;by_cases hj:j=i
   ·subst hj;rw [h1,h0,ha];exact ⟨by omega,rfl⟩
   ·by_cases hj2:j<i+1+a.size
    ·exact i2 j (by omega) hj2
    ·exact i4 j (by omega) (by omega)
theorem yqc [Dfr] (l:List Nd) (t:T) (ht:tree l=some t) (hl:l.length≤1000000):qiv l=some true:=by
 obtain ⟨htok,hrow⟩:=zht.1 ht;have hp:=T.zww t;have hlen:l.length=t.size:=by rw [hrow,T.zab]
 have hP:P l=some (t,[]):=by rw [hrow];exact qfo htok
 have hsz:sz l=t.size:=by unfold sz;rw [hP]
 rw [yki,zow l (by omega),hsz,decide_eq_true (show (l.length:Int)>0 by omega),hlen];simp
theorem qja [Dfr] [zfm] (l:List Nd) (k:Int) (r:List Int) (h:zxg l k=some r):zdw Tryz.prog E 103 (l,k) r:=by
 unfold zxg at h;split at h
 ·rename_i t ht;split at h
  ·rename_i hc;obtain ⟨hl,hk0,hk1⟩:=hc;cases h;obtain ⟨htok,hrow⟩:=zht.1 ht;have hlen:l.length=t.size:=by rw [hrow,T.zab]
   obtain ⟨ho1,ho2⟩:=qpp l t 0 [] htok (by rw [List.drop_zero,List.append_nil];exact hrow);intro w F0 G A vs hA;obtain ⟨v0,v1,rfl,h0,h1⟩:∃v0 v1,vs=[v0,v1]∧Cl (A.F F0) w (.slice 68 NdT) l [v0]∧v1= .int .i64 k:=by
    have hr:=hA.rel;cases hr with
    |cons a hr=>cases hr with
     |cons b hr=>cases hr;exact ⟨_,_,rfl,a,b⟩
   subst h1;obtain ⟨s,cap,rfl⟩:∃s cap,v0= .slice s l.length cap:=by have h0:=h0;rw [Cl] at h0;obtain ⟨a,c,e,_⟩:=h0;exact ⟨a,c,(List.cons.inj e).1⟩
   have hin:xky w l s l.length cap:=fun W hW=>by have S:Step (A.F F0) (fun _=>False) w W:=⟨fun b _ hb=>hW.block b hb (by omega),fun b hb=>hb.elim⟩;exact ⟨hA.glob.step S,Cl.step S h0⟩
   have hone:=yqc l t ht hl;have hit:=xjj (qop l) s l.length cap w hin hone rfl hl (fun i hi=>by rw [zox];have:=(ho2 i (Nat.zero_le _) (by omega)).2;rw [List.getD_eq_getElem?_getD,List.getElem?_eq_getElem hi,Option.getD_some] at this;rw [this]) (fun i hi=>(ho2 i (Nat.zero_le _) (by omega)).1);obtain ⟨q,rfl⟩:=Int.eq_ofNat_of_zero_le hk0;have hov:=yuz l.length (fun k=>topO (stkS (qop l) k)) t.ovr (fun i hi=>by rw [T.xgc (qop l) t ho1 i (by omega)];exact T.xhm t i (by omega)) hl s l.length cap w hit q (by omega);rw [callsIn_wide] at hov;refine hov.mono ?_;rintro e w' ⟨v,m,rfl,hv,hkept⟩;have hsz:=hkept.size;refine ⟨v,rfl,hkept.weak fun _ _ h=>h.elim,fun d=> ?_⟩;have hm:m=((t.ovr ((q:Nat):Int).toNat).map fun (i:Nat)=>(i:Int)).length:=by have:=hv.1;rw [List.length_map] at this;rw [List.length_map,Int.toNat_natCast];omega
   rcases hv.2 with ⟨rfl,h0⟩|⟨g,cp,cur,rfl,hg,hh,hc,hm2,hcs,htk⟩
   ·have hnil:((t.ovr ((q:Nat):Int).toNat).map fun (i:Nat)=>(i:Int))=[]:=List.eq_nil_of_length_eq_zero (by omega);refine ⟨⟨fun _=>none,fun _=>none⟩,?_,fun _=>rfl,fun n b l h=>(by cases h),fun n n' b l l' h=>(by cases h)⟩;exact .inl ⟨rfl,hnil,none,rfl⟩
   ·refine ⟨⟨fun _=>none,fun n=>if n=zcc d 0 0 then some (g,m) else none⟩,?_,fun _=>rfl,fun n b l h=> ?_,fun n n' b l l' h h'=> ?_⟩
    ·refine .inr ⟨g,m,if_pos rfl,hm,cp,cur,by rw [←hm],hh,by rw [←hm];exact hc,hm2,hcs,fun i x hx=> ?_⟩;refine ⟨[.int .i64 x],by rw [Cl],fun j u hu=> ?_⟩;rw [List.getElem?_map] at hx;obtain ⟨n,hn,rfl⟩:=Option.map_eq_some_iff.1 hx;have h2:(List.take (m*1) cur.toList)[i]? =some (.int .i64 (n:Int)):=by rw [htk,List.getElem?_map];rw [Int.toNat_natCast] at hn;rw [hn];rfl
     rw [List.getElem?_take] at h2;split at h2
     ·match j,hu with
      |0,hu=>
       cases hu;rw [Array.getElem?_toList] at h2
       simpa [Ty.sz] using h2
     ·cases h2
    ·simp only at h;split at h
     ·cases h;exact ⟨.inl hg,(Array.getElem?_eq_some_iff.1 hh).1⟩
     ·cases h
    ·simp only at h h';split at h
     ·split at h'
      ·rename_i e1 e2;rw [e1,e2]
      ·cases h'
     ·cases h
  ·cases h
 ·cases h
attribute [local go_sem] Oper.semAt_some
set_option maxHeartbeats 1600000 in
theorem xhy [Dfr] [zfm] {F:Nat→Prop} {w:World} {v vt:Value} {l:List Nd} {t:Tc} (hF:∀b,F b→b<w.heap.size) (hg:zfe E F w) (hc:Cl F w (.slice 68 NdY) l [v]) (ht:Cl F w StY t.1 [vt]) (hl:l.length≤1000000) (h0:chkR l≠0):
 Calls Tryz.prog 24 #[v,.agg #[vt,.int .i64 t.2]] w fun e w'=>∃u,e= .returned (.tuple #[u,.bool (qha l t).2])∧Kept (fun _=>False) w w'∧Cl F w' (.slice 3 (.int .i64)) (qha l t).1 [u]:=by
 have hchk:=qbj l (by omega);rw [yoe (fun h=>h0 h.1)];obtain ⟨z,hz⟩:∃z,chkR l=z:=⟨_,rfl⟩;rw [hz] at hchk h0;have kB:=zcz w (Obj.cells #[vt,.int .i64 t.2] 33);have sB:Step F F w (w.alloc (Obj.cells #[vt,.int .i64 t.2] 33)):=zbq kB fun _ h=>h.elim
 have hFB:∀b,F b→b<(w.alloc (Obj.cells #[vt,.int .i64 t.2] 33)).heap.size:=fun b hb=>Nat.lt_of_lt_of_le (hF b hb) kB.size
 obtain ⟨s,c,rfl⟩:=zen hc;obtain ⟨st,ct,rfl⟩:=zen ht;go_enter Tryz.func24,Tryz.ntmps24;go_wp2_with (go_at_fn 47);refine (qhh hchk hFB (hg.step sB) (hc.step sB)).mono ?_;rintro e w1 ⟨rfl,hk1⟩;go_wp2;go_ret2;refine ⟨_,rfl,kB.trans hk1 fun _ h=>h.elim,?_⟩;rw [Cl];exact ⟨none,0,rfl,Nat.le_refl _,.inl rfl⟩
theorem yct [Dfr] [zfm] [zda] [zew] [zlf] (l:List Nd) (t:Tc) (r:List Int×Bool) (h:qcs l t=some r):zdw Tryz.prog E 24 (l,t) r:=by
 unfold qcs at h;split at h
 ·rename_i hc;cases h;intro w F0 G A vs hA;obtain ⟨v0,vt,rfl,h0,ht⟩:∃v0 vt,vs=[v0,.agg #[vt,.int .i64 t.2]]∧Cl (A.F F0) w (.slice 68 NdY) l [v0]∧Cl (A.F F0) w StY t.1 [vt]:=by
   have hr:=hA.rel;cases hr with
   |cons a hr=>cases hr with
    |cons b hr=>
     cases hr;obtain ⟨ws,e,hw⟩:=b;cases hw with
     |cons k0 hw=>cases hw with
      |cons k1 hw=>cases hw;cases k1;exact ⟨_,_,by rw [e],a,k0⟩
  have hF:∀b,A.F F0 b→b<w.heap.size:=fun b hb=>by
   rcases hb with hb|⟨d,hb⟩|⟨n,l,hb⟩
   ·exact (hA.f0 b hb).1
   ·rw [hA.bx] at hb;cases hb
   ·exact (hA.tgm n b l hb).2
  have hcalls:Calls Tryz.prog 24 #[v0,.agg #[vt,.int .i64 t.2]] w fun e w'=>∃u,e= .returned (.tuple #[u,.bool (qha l t).2])∧Kept (fun _=>False) w w'∧Cl (A.F F0) w' (.slice 3 (.int .i64)) (qha l t).1 [u]:=by
   by_cases h2:chkR l=0
   ·obtain ⟨n,rfl,hn⟩:=yok h2;exact xcp hF hA.glob h0 ht hn hc.2.1 hc.2.2
   ·exact xhy hF hA.glob h0 ht hc.1 h2
  refine hcalls.mono ?_;rintro e w' ⟨u,rfl,hk,hu⟩;refine ⟨_,rfl,zof hk,fun d=>⟨⟨fun _=>none,fun _=>none⟩,?_,fun _=>rfl,fun n b l h=>(by cases h),fun n n' b l l' h h'=>(by cases h)⟩⟩;have hu':Cl (Fr.F ⟨fun _=>none,fun _=>none⟩ F0) w' (.slice 3 (.int .i64)) (qha l t).1 [u]:=Cl.lift (fun b hb=>by
   rcases hb with hb|⟨d',hb⟩|⟨n,l',hb⟩
   ·exact .inl hb
   ·cases hb
   ·cases hb) hu
  exact ⟨[u,.bool (qha l t).2],rfl,.cons hu' (.cons rfl .nil)⟩
 ·cases h
@[reducible] def dfr0:Dfr where
 d_plot_Over:=fun _ _=>none
 d_trace_Mix:=fun _ _=>none
 d_move_ways:=none
 d_step_Put:=fun _ _ _=>none
 d_runs_All:=fun _=>none
 d_runs_Find:=fun _ _=>none
theorem ydh:zbc Tryz.prog 103:=⟨Tryz.f103,Tryz.func103,by kernel_rfl,by kernel_rfl⟩
theorem ylv:zbc Tryz.prog 180:=⟨Tryz.f180,Tryz.func180,by kernel_rfl,by kernel_rfl⟩
theorem ydg:zbc Tryz.prog 59:=⟨Tryz.f59,Tryz.func59,by kernel_rfl,by kernel_rfl⟩
theorem ylu:zbc Tryz.prog 72:=⟨Tryz.f72,Tryz.func72,by kernel_rfl,by kernel_rfl⟩
theorem ylx:zbc Tryz.prog 20:=⟨Tryz.f20,Tryz.func20,by kernel_rfl,by kernel_rfl⟩
theorem ydi:zbc Tryz.prog 24:=⟨Tryz.f24,Tryz.func24,by kernel_rfl,by kernel_rfl⟩
theorem ok0: @zfm dfr0:=
 letI:=dfr0
 {
 c_plot_Over:=⟨ydh,fun x r h=>by cases h⟩
 c_trace_Mix:=⟨ylv,fun x r h=>by cases h⟩
 c_move_ways:=⟨ydg,fun x r h=>by cases h⟩
 c_step_Put:=⟨ylu,fun x r h=>by cases h⟩
 c_runs_All:=⟨ylx,fun x r h=>by cases h⟩
 c_runs_Find:=⟨ydi,fun x r h=>by cases h⟩
 }
@[reducible] noncomputable def dfr1:Dfr where
 d_plot_Over:=zxg
 d_trace_Mix:=qdu
 d_move_ways:=some tabW
 d_step_Put:=qdn
 d_runs_All:=fun _=>none
 d_runs_Find:=fun _ _=>none
theorem ok1: @zfm dfr1:=
 letI:=dfr1
 {
 c_plot_Over:=⟨ydh,fun x r h=>zit (@qja dfr0 ok0 x.1 x.2 r h)⟩
 c_trace_Mix:=⟨ylv,fun x r h=>zit (@qne dfr0 ok0 x.1 x.2 r h)⟩
 c_move_ways:=⟨ydg,fun x r h=>by cases h;exact @qht dfr1⟩
 c_step_Put:=⟨ylu,fun x r h=>zit (@qmy dfr0 ok0 x.1 x.2.1 x.2.2 r h)⟩
 c_runs_All:=⟨ylx,fun x r h=>by cases h⟩
 c_runs_Find:=⟨ydi,fun x r h=>by cases h⟩
 }
theorem xjz: @zda dfr1:= @zda.mk dfr1 fun _ _=>rfl
theorem xiz: @zew dfr1:= @zew.mk dfr1 rfl
theorem put1: @zlf dfr1:= @zlf.mk dfr1 fun _ _ _=>rfl
noncomputable instance topDfr:Dfr where
 d_plot_Over:=zxg
 d_trace_Mix:=qdu
 d_move_ways:=some tabW
 d_step_Put:=qdn
 d_runs_All:=zzx
 d_runs_Find:=qcs
instance topOK:zfm where
 c_plot_Over:=⟨ydh,fun x r h=>zit (@qja dfr0 ok0 x.1 x.2 r h)⟩
 c_trace_Mix:=⟨ylv,fun x r h=>zit (@qne dfr0 ok0 x.1 x.2 r h)⟩
 c_move_ways:=⟨ydg,fun x r h=>by cases h;exact @qht topDfr⟩
 c_step_Put:=⟨ylu,fun x r h=>zit (@qmy dfr0 ok0 x.1 x.2.1 x.2.2 r h)⟩
 c_runs_All:=⟨ylx,fun x r h=>zit (@yii dfr1 ok1 xjz xiz put1 x r h)⟩
 c_runs_Find:=⟨ydi,fun x r h=>zit (@yct dfr1 ok1 xjz xiz put1 x.1 x.2 r h)⟩
instance topOver:zda:=⟨fun _ _=>rfl⟩
instance topMix:qnp:=⟨fun _ _=>rfl⟩
instance topWays:zew:=⟨rfl⟩
instance topPut:zlf:=⟨fun _ _ _=>rfl⟩
instance topAll:qfq:=⟨fun _=>rfl⟩
instance topFind:qhj:=⟨fun _ _=>rfl⟩
end Go.Proofs.YtjolkdjkhekbnaaGreatDoor.Sv
