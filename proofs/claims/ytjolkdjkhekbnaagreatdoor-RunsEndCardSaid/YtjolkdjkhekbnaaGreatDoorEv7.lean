/- slices.SortFunc in its place, out of the shelf's contract. -/
import Derived.Test.YtjolkdjkhekbnaaGreatDoorEv4
import Derived.Shelf.SlSortCmp.NoneTotal
set_option linter.unusedVariables false
set_option linter.unusedSimpArgs false
namespace Go.Sv
open Go Go.Sort Go.Proofs
def sw (w:World) (b m:Nat) (f:Array Value→Array Value) (os:Array Obj):World:=grow (mapBlock (Go.Sort.ahead w m) b f) os
theorem qqc {w:World} {b m:Nat} {f:Array Value→Array Value} {os:Array Obj} {cur:Array Value} {e:TypeId} (hh:w.heap[b]? =some (.cells cur e (0,0))):(sw w b m f os).heap[b]? =some (.cells (f cur) e (0,0)):=by have hb:b<w.heap.size:=(Array.getElem?_eq_some_iff.1 hh).1;rw [sw,heap_grow_old _ _ (by simpa [mapBlock] using hb)];simp only [mapBlock,Go.Sort.ahead,Array.getElem?_modify,hh,if_true,Option.map_some,onCells]
theorem ymq {w:World} {b m k:Nat} {f:Array Value→Array Value} {os:Array Obj} (hk:k≠b) (hlt:k<w.heap.size):(sw w b m f os).heap[k]? =w.heap[k]? :=by rw [sw,heap_grow_old _ _ (by simpa [mapBlock] using hlt)];simp only [mapBlock,Go.Sort.ahead,Array.getElem?_modify,if_neg (Ne.symm hk)]
theorem qqa (w:World) (b m:Nat) (f:Array Value→Array Value) (os:Array Obj):w.heap.size≤(sw w b m f os).heap.size:=by simp [sw,grow,mapBlock,Go.Sort.ahead]
theorem qqb (w:World) (b m:Nat) (f:Array Value→Array Value) (os:Array Obj):Kept (fun k=>k=b) w (sw w b m f os):=
 ⟨rfl,rfl,rfl,qqa ..,fun k hk hne=>ymq hne hk,Nat.le_add_right _ _⟩
theorem qax {F:Nat→Prop} {w:World} {b m:Nat} {f:Array Value→Array Value} {os:Array Obj} (hb:F b):Step F F w (sw w b m f os):=
 ⟨fun k hk hlt=>ymq (fun e=>hk (e▸hb)) hlt,fun _ h=>.inl h⟩
theorem qjm {w w':World} (h:Kept (fun _=>False) w w'):∃q os',w'=grow (w.drewN q) os':=by
 refine ⟨w'.drawn-w.drawn,w'.heap.extract w.heap.size w'.heap.size,?_⟩;have hheap:w'.heap=w.heap++w'.heap.extract w.heap.size w'.heap.size:=by
  apply Array.ext_getElem?;intro k;rw [Array.getElem?_append];by_cases hk:k<w.heap.size
  ·rw [if_pos hk];exact h.block k hk fun h=>h
  ·rw [if_neg hk,Array.getElem?_extract];have:=h.size;by_cases hk2:k<w'.heap.size
   ·rw [if_pos (by omega)];congr 1;omega
   ·rw [if_neg (by omega),Array.getElem?_eq_none (by omega)]
 obtain ⟨h1,h2,h3,h4,h5,h6⟩:=h;obtain ⟨hp,tp,dr,o,ou⟩:=w';simp only at h1 h2 h3 h4 h5 h6 hheap;simp only [grow,World.drewN,h1,h2,h3,←hheap]
 congr 1
 omega
theorem qqm {α β:Type} [Inhabited α] {den:α→β} {cf:β→β→Int} {xs:List β} (hord:ymg cf xs) {d d':Array α} (hd:d.toList.map den=xs) (hden:∀x:α,den x∈xs)
 (hp:PermIn 0 d.size d d') (hs:SortedIn (ltOf fun x y=>cf (den x) (den y)) 0 d.size d'):d'.toList.map den=qlh cf xs:=by
 obtain ⟨hsz,_,hperm⟩:=hp;have e1:d'.extract 0 d.size=d':=by rw [←hsz];exact Array.extract_size
 rw [e1,Array.extract_size] at hperm
 let B:={x:β // x∈xs}
 let tb:α→B:=fun x=>⟨den x,hden x⟩
 let lt:B→B→Bool:=fun x y=>decide (cf x.1 y.1<0)
 have key:d'.toList.map tb=(d.toList.map tb).mergeSort fun x y=> !lt y x:=by
  refine List.Perm.eq_of_pairwise (le:=fun x y=>(!lt y x)=true) ?_ ?_ ?_ ((hperm.map tb).trans (List.mergeSort_perm _ _).symm)
  ·intro a b _ _ h1 h2;simp only [lt,Bool.not_eq_true',decide_eq_false_iff_not] at h1 h2;rcases ((hord a.1 a.2).2 b.1 b.2).1 with h|h|h
   ·exact absurd h h2
   ·exact absurd h h1
   ·exact Subtype.ext h
  ·rw [List.pairwise_iff_getElem];intro i j hi hj hij;simp only [List.length_map,Array.length_toList] at hi hj;have h:=hs i j (Nat.zero_le _) hij (by omega);rw [getElem!_pos d' i (by omega),getElem!_pos d' j (by omega)] at h;simp only [List.getElem_map,Array.getElem_toList,lt,tb];unfold ltOf at h;rw [h];rfl
  ·refine List.pairwise_mergeSort (fun a b c h1 h2=> ?_) (fun a b=> ?_) _
   ·simp only [lt,Bool.not_eq_true',decide_eq_false_iff_not] at h1 h2 ⊢;exact (((hord c.1 c.2).2 b.1 b.2).2 a.1 a.2).2 h2 h1
   ·simp only [lt,Bool.or_eq_true,Bool.not_eq_true',decide_eq_false_iff_not];by_cases h:cf b.1 a.1<0
    ·refine .inr fun h'=> ?_
     exact (hord a.1 a.2).1 ((((hord a.1 a.2).2 b.1 b.2).2 a.1 a.2).1 h' h)
    ·exact .inl h
 have h1:(d'.toList.map tb).map Subtype.val=d'.toList.map den:=by rw [List.map_map];rfl
 have h2:(d.toList.map tb).map Subtype.val=xs:=by rw [List.map_map];exact hd
 rw [←h1,key,List.map_mergeSort (s:=fun x y=> !decide (cf y x<0)) (fun _ _ _ _=>rfl),h2];rfl
section
variable {P:Program} {E:Env} {ρ:Go.Shelf.Ren}
theorem qmk (L:SlLaysF0.n6 P ρ) {e:TypeId} {u:Ty} (hp:u.zke=true) (aE:∀w,(isAgg (ρ.t 24)).run P w= .ok true w) (zE:∀w,(Go.sizeOf (ρ.t 24)).run P w= .ok u.sz w) (hcall:zbc P (ρ.f 6)):ztq P E (ρ.f 6) false e u:=by
 refine ⟨hcall,fun a cap fv w=>AnyF.slices_SortFunc_none L a cap fv w,fun _ F w xs g l v c cvs cf hord hne hlen hc hown hF hcmp=> ?_,fun h=>by cases h⟩;obtain ⟨hl,cap,cur,rfl,hh,hcap,hcm,hcs,hel⟩:=hown;have hblk:g<w.heap.size:=(Array.getElem?_eq_some_iff.1 hh).1;have hel':∀i:Fin xs.length,∃ds,Cl F w u xs[i] ds∧∀j z,ds[j]? =some z→cur[i.1*u.sz+j]? =some z:=fun i=>hel i xs[i] (List.getElem?_eq_getElem i.2)
 let α:={p:u.den×List Value // p.1∈xs∧Cl F w u p.1 p.2}
 let mk (i:Fin xs.length):α:=⟨(xs[i],(hel' i).choose),List.getElem_mem _,(hel' i).choose_spec.1⟩
 let d:Array α:=Array.ofFn mk
 have hpos:0<xs.length:=List.length_pos_iff.2 hne;haveI:Inhabited α:=⟨mk ⟨0,hpos⟩⟩
 let enc:α→List Value:=fun p=>p.1.2
 let den:α→u.den:=fun p=>p.1.1
 have hk:∀x:α,(enc x).length=u.sz:=fun x=>x.2.2.length
 have h1:∀x:α,∀v∈enc x,v.oneCell'=true:=fun x=>x.2.2.one
 have hds:d.size=xs.length:=by simp [d]
 have hdd:d.toList.map den=xs:=by
  apply List.ext_getElem
  ·simp [d]
  ·intro i hi1 hi2;simp [d,mk,den]
 have hH:HoldsK enc u.sz w g 0 d:=by
  intro j hj;rw [size_flatK,hds] at hj;have hsz:=Ty.zpw u;have hq:j/u.sz<xs.length:=Nat.div_lt_of_lt_mul (by rwa [Nat.mul_comm] at hj);have hr:j % u.sz<u.sz:=Nat.mod_lt _ hsz;have hspec:=(hel' ⟨j/u.sz,hq⟩).choose_spec;have hlen:=hspec.1.length;have hcell:=hspec.2 (j % u.sz) _ (List.getElem?_eq_getElem (by rw [hlen];exact hr));have hjj:j/u.sz*u.sz+j % u.sz=j:=by rw [Nat.mul_comm];exact Nat.div_add_mod j u.sz
  have hflat:(flatK enc u.sz d)[j]! =((hel' ⟨j/u.sz,hq⟩).choose)[j % u.sz]'(by rw [hlen];exact hr):=by rw [get_flatK enc u.sz d j (by rw [hds];exact hj),getElem!_pos d _ (by rw [hds];exact hq)];simp only [d,Array.getElem_ofFn,enc,mk];rw [getElem!_pos _ _ (by rw [hlen];exact hr)]
  refine ⟨?_,?_⟩
  ·simp only [World.cell?,hh,Nat.zero_add,id,hflat];simp only [hjj] at hcell
   simpa using hcell
  ·simp only [World.frozen?,hh];simp
 have hcmp':CmpLays P c cvs.toArray enc u.sz (fun x y=>cf (den x) (den y)) g 0 d.size w:=fun m os dk hdk x y=>by have hW:sortWorldK enc u.sz w g 0 m dk os=sw w g m (putCells id 0 (flatK enc u.sz dk)) os:=rfl;rw [hW];have S:Step F F w (sw w g m (putCells id 0 (flatK enc u.sz dk)) os):=qax hF;have h:=hcmp _ x.1.1 y.1.1 x.1.2 y.1.2 x.2.1 y.2.1 S (qqa ..) (x.2.2.step S) (y.2.2.step S);unfold uval at h;rw [if_pos hp,if_pos hp] at h;exact h.mono fun en W' ⟨he,hk⟩=>⟨he,qjm hk⟩
 have hO:SWO (ltOf fun x y:α=>cf (den x) (den y)):=⟨fun x=>by have:=(hord x.1.1 x.2.1).1;simpa [ltOf,den] using this,
  fun x y z h1 h2=>by have:=(((hord x.1.1 x.2.1).2 y.1.1 y.2.1).2 z.1.1 z.2.1).1;simp only [ltOf,decide_eq_true_eq] at h1 h2 ⊢;exact this h1 h2,
  fun x y z h1 h2=>by have:=(((hord x.1.1 x.2.1).2 y.1.1 y.2.1).2 z.1.1 z.2.1).2;simp only [ltOf,decide_eq_false_iff_not] at h1 h2 ⊢;exact this h1 h2⟩
 have hc2:∀args w,(callFunc c args).run P w= .ok (.enter c args) w:=fun args w=>by
  obtain ⟨fn,h1,h2,h3⟩:=hc;have h2':¬fn.name= "runtime.NumGoroutine" :=by simpa using h2
  have h3':¬fn.body=none:=by cases hb:fn.body<;>simp_all
  simp [callFunc,h1,h2',h3']
 have hmain:=AnyQ.slices_SortFunc L u.sz aE zE enc hk h1 (fun x y=>cf (den x) (den y)) hO c cvs.toArray g 0 cap d w hc2 hcmp' hH hblk (by rw [hds];omega);rw [hds] at hmain;refine hmain.mono fun en w' ⟨he,d',n,os,hperm,hsort,hw⟩=>⟨he,?_⟩
 have hW:w'=sw w g n (putCells id 0 (flatK enc u.sz d')) os:=hw;subst hW;have hd's:d'.size=xs.length:=by have:=hperm.1;rw [this,hds]
 have htold:d'.toList.map den=qlh cf xs:=qqm hord hdd (fun x=>x.2.1) (by rw [hds];exact hperm) (by rw [hds];exact hsort);have hmlen:(qlh cf xs).length=xs.length:=by simp [qlh]
 refine ⟨qqb ..,by rw [hmlen];exact hl,cap,putCells id 0 (flatK enc u.sz d') cur,by rw [hmlen],qqc hh,by rw [hmlen];exact hcap,hcm,by simp [putCells,hcs],fun i x hx=> ?_⟩;have hi:i<d'.size:=by have:=(List.getElem?_eq_some_iff.1 hx).1;omega
 have hxi:den d'[i]=x:=by
  rw [←htold] at hx
  simpa [hi] using hx
 refine ⟨enc d'[i],?_,fun j z hj=> ?_⟩
 ·have:=d'[i].2.2.step (qax (m:=n) (f:=putCells id 0 (flatK enc u.sz d')) (os:=os) hF);rw [←hxi];exact this
 ·have hjl:j<u.sz:=by have:=(List.getElem?_eq_some_iff.1 hj).1;rw [hk] at this;exact this
  have hlt:i*u.sz+j<xs.length*u.sz:=by have:(i+1)*u.sz≤xs.length*u.sz:=Nat.mul_le_mul_right _ (by omega);rw [Nat.add_mul] at this;omega
  have hcl:xs.length*u.sz≤cur.size:=by rw [hcs];exact Nat.mul_le_mul_right _ hcap
  have e1:(i*u.sz+j)/u.sz=i:=by rw [Nat.add_comm,Nat.add_mul_div_right _ _ (Ty.zpw u),Nat.div_eq_of_lt hjl,Nat.zero_add]
  have e2:(i*u.sz+j) % u.sz=j:=by rw [Nat.add_comm,Nat.add_mul_mod_self_right,Nat.mod_eq_of_lt hjl]
  have hf:(flatK enc u.sz d')[i*u.sz+j]! =z:=by rw [get_flatK _ _ _ _ (by rw [hd's];exact hlt),e1,e2,getElem!_pos d' i hi];obtain ⟨h3,h4⟩:=List.getElem?_eq_some_iff.1 hj;rw [getElem!_pos (enc d'[i]) j h3,h4]
  have hcur:i*u.sz+j<cur.size:=by omega
  simp only [putCells,Array.getElem?_mapIdx,Array.getElem?_eq_getElem hcur,Option.map_some,size_flatK,Nat.zero_add,Nat.sub_zero,id,hf];rw [if_pos ⟨Nat.zero_le _,by rw [hd's];exact hlt⟩]
theorem yep (L:SlLaysF.n6 P ρ) {e:TypeId} {u:Ty} (hp:u.zke=false) (hcall:zbc P (ρ.f 6)):ztq P E (ρ.f 6) false e u:=by
 refine ⟨hcall,fun a cap fv w=>AnyF.slices_SortFunc_none {L with} a cap fv w,fun _ F w xs g l v c cvs cf hord hne hlen hc hown hF hcmp=> ?_,fun h=>by cases h⟩;have hu1:u.sz=1:=by cases u with
  |pair a b=>cases hp
  |_=>rfl
 obtain ⟨hl,cap,cur,rfl,hh,hcap,hcm,hcs,hel⟩:=hown;rw [hu1,Nat.mul_one] at hcs;have hblk:g<w.heap.size:=(Array.getElem?_eq_some_iff.1 hh).1;have hel':∀i:Fin xs.length,∃ds,Cl F w u xs[i] ds∧cur[i.1]? =some (ds.headD undef):=fun i=>by
  obtain ⟨ds,h1,h2⟩:=hel i xs[i] (List.getElem?_eq_getElem i.2);have hlen:=h1.length;rw [hu1] at hlen h2;refine ⟨ds,h1,?_⟩
  match ds,hlen with
  |[v],_=>simpa using h2 0 v rfl
 let α:={p:u.den×List Value // p.1∈xs∧Cl F w u p.1 p.2}
 let mk (i:Fin xs.length):α:=⟨(xs[i],(hel' i).choose),List.getElem_mem _,(hel' i).choose_spec.1⟩
 let d:Array α:=Array.ofFn mk
 have hpos:0<xs.length:=List.length_pos_iff.2 hne;haveI:Inhabited α:=⟨mk ⟨0,hpos⟩⟩
 let enc:α→Value:=fun p=>p.1.2.headD undef
 let den:α→u.den:=fun p=>p.1.1
 have hk:∀x:α,x.1.2=[enc x]:=fun x=>by
  have:=x.2.2.length;rw [hu1] at this
  match hx:x.1.2,this with
  |[v],_=>simp [enc,hx]
 have h1:∀x:α,(enc x).oneCell'=true:=fun x=>x.2.2.one _ (by rw [hk x];simp)
 have hds:d.size=xs.length:=by simp [d]
 have hdd:d.toList.map den=xs:=by
  apply List.ext_getElem
  ·simp [d]
  ·intro i hi1 hi2;simp [d,mk,den]
 have hH:Holds enc w g 0 d:=by
  intro j hj;rw [hds] at hj;have hspec:=(hel' ⟨j,hj⟩).choose_spec;refine ⟨?_,?_⟩
  ·rw [getElem!_pos d _ (by rw [hds];exact hj)];simp only [World.cell?,hh,Nat.zero_add,d,Array.getElem_ofFn,enc,mk]
   simpa using hspec.2
  ·simp only [World.frozen?,hh];simp
 have hcmp':CmpLays1 P c cvs.toArray enc (fun x y=>cf (den x) (den y)) g 0 d.size w:=fun m os dk hdk x y=>by have hW:sortWorld enc w g 0 m dk os=sw w g m (putCells enc 0 dk) os:=rfl;rw [hW];have S:Step F F w (sw w g m (putCells enc 0 dk) os):=qax hF;have h:=hcmp _ x.1.1 y.1.1 x.1.2 y.1.2 x.2.1 y.2.1 S (qqa ..) (x.2.2.step S) (y.2.2.step S);unfold uval at h;rw [if_neg (by rw [hp];exact Bool.false_ne_true),if_neg (by rw [hp];exact Bool.false_ne_true)] at h;exact h.mono fun en W' ⟨he,hk⟩=>⟨he,qjm hk⟩
 have hO:SWO (ltOf fun x y:α=>cf (den x) (den y)):=⟨fun x=>by have:=(hord x.1.1 x.2.1).1;simpa [ltOf,den] using this,
  fun x y z h1 h2=>by have:=(((hord x.1.1 x.2.1).2 y.1.1 y.2.1).2 z.1.1 z.2.1).1;simp only [ltOf,decide_eq_true_eq] at h1 h2 ⊢;exact this h1 h2,
  fun x y z h1 h2=>by have:=(((hord x.1.1 x.2.1).2 y.1.1 y.2.1).2 z.1.1 z.2.1).2;simp only [ltOf,decide_eq_false_iff_not] at h1 h2 ⊢;exact this h1 h2⟩
 have hc2:∀args w,(callFunc c args).run P w= .ok (.enter c args) w:=fun args w=>by
  obtain ⟨fn,h1,h2,h3⟩:=hc;have h2':¬fn.name= "runtime.NumGoroutine" :=by simpa using h2
  have h3':¬fn.body=none:=by cases hb:fn.body<;>simp_all
  simp [callFunc,h1,h2',h3']
 have hmain:=Any.slices_SortFunc L enc h1 (fun x y=>cf (den x) (den y)) hO c cvs.toArray g 0 cap d w hc2 hcmp' hH hblk (by rw [hds];omega);rw [hds] at hmain;refine hmain.mono fun en w' ⟨he,d',n,os,hperm,hsort,hw⟩=>⟨he,?_⟩
 have hW:w'=sw w g n (putCells enc 0 d') os:=hw;subst hW;have hd's:d'.size=xs.length:=by have:=hperm.1;rw [this,hds]
 have htold:d'.toList.map den=qlh cf xs:=qqm hord hdd (fun x=>x.2.1) (by rw [hds];exact hperm) (by rw [hds];exact hsort);have hmlen:(qlh cf xs).length=xs.length:=by simp [qlh]
 refine ⟨qqb ..,by rw [hmlen];exact hl,cap,putCells enc 0 d' cur,by rw [hmlen],qqc hh,by rw [hmlen];exact hcap,hcm,by simp [putCells,hcs,hu1],fun i x hx=> ?_⟩;have hi:i<d'.size:=by have:=(List.getElem?_eq_some_iff.1 hx).1;omega
 have hxi:den d'[i]=x:=by
  rw [←htold] at hx
  simpa [hi] using hx
 refine ⟨[enc d'[i]],?_,fun j z hj=> ?_⟩
 ·have:=d'[i].2.2.step (qax (m:=n) (f:=putCells enc 0 d') (os:=os) hF);rw [hk] at this;rw [←hxi];exact this
 ·have hjl:j<1:=by have:=(List.getElem?_eq_some_iff.1 hj).1;simpa using this
  have hj0:j=0:=by omega
  subst hj0;simp only [List.getElem?_cons_zero,Option.some.injEq] at hj;have hcur:i<cur.size:=by omega
  rw [hu1,Nat.mul_one,Nat.add_zero];simp only [putCells,Array.getElem?_mapIdx,Array.getElem?_eq_getElem hcur,Option.map_some,Nat.zero_add,Nat.sub_zero];rw [if_pos ⟨Nat.zero_le _,hi⟩,getElem!_pos d' i hi,hj]
end
section
variable {α:Type} (ef:α→α→Bool)
theorem qfm:∀(l:List α) (q p x:α),(q::l).getLast? =some p→zcv ef q (l++[x])=zcv ef q l++(bif ef x p then [] else [x])
 |[],q,p,x,h=>by
  simp only [List.getLast?_singleton,Option.some.injEq] at h;subst h;simp only [List.nil_append,zcv]
  all_goals (cases ef x q<;>rfl)
 |y::l,q,p,x,h=>by rw [List.getLast?_cons_cons] at h;have ih:=qfm l y p x h;simp only [List.cons_append,zcv,ih];cases ef y q<;>rfl
theorem ydd (l:List α) (p x:α) (h:l.getLast? =some p):zaf ef (l++[x])=zaf ef l++(bif ef x p then [] else [x]):=by
 cases l with
 |nil=>cases h
 |cons q l=>simp only [List.cons_append,zaf,qfm ef l q p x h]
theorem zrc:∀(l:List α) (q:α),(zcv ef q l).length≤l.length
 |[],_=>Nat.le_refl _
 |y::l,q=>by have:=zrc l y;simp only [zcv];cases ef y q<;>simp<;>omega
theorem zoi [Inhabited α] {d:Array α} {m:Nat} (h0:1≤m) (hm:m<d.size):zaf ef (d.toList.take (m+1))=zaf ef (d.toList.take m)++(bif ef d[m]! d[m-1]! then [] else [d[m]!]):=by
 have e:d.toList.take (m+1)=d.toList.take m++[d[m]!]:=by rw [List.take_add_one,List.getElem?_eq_getElem (by simpa using hm),getElem!_pos d m hm];simp
 rw [e];refine ydd ef _ _ _ ?_;rw [List.getLast?_eq_getElem?,List.length_take,Array.length_toList,Nat.min_eq_left (Nat.le_of_lt hm),List.getElem?_take,if_pos (by omega),List.getElem?_eq_getElem (by simp;omega),getElem!_pos d (m-1) (by omega)];simp
theorem zoj [Inhabited α] {d:Array α}:∀(m:Nat),m≤d.size→(∀j,1≤j→j<m→ef d[j]! d[j-1]! =false)→zaf ef (d.toList.take m)=d.toList.take m
 |0,_,_=>by simp [zaf]
 |1,h,_=>by
  obtain ⟨l⟩:=d;cases l with
  |nil=>simp [zaf]
  |cons x r=>simp [zaf,zcv]
 |m+2,h,hn=>by
  rw [zoi ef (by omega) (by omega),zoj (m+1) (by omega) fun j h1 h2=>hn j h1 (by omega),hn (m+1) (by omega) (by omega)];have e:d.toList.take (m+1+1)=d.toList.take (m+1)++[d[m+1]!]:=by rw [List.take_add_one,List.getElem?_eq_getElem (by simpa using (show m+1<d.size by omega)),getElem!_pos d (m+1) (by omega)];simp
  rw [e];rfl
end
structure CInv {α:Type} [Inhabited α] (ef:α→α→Bool) (enc:α→List Value) (k:Nat) (d:Array α) (m kk:Nat) (F:Array Value):Prop where
 size:F.size=d.size*k
 len:kk=(zaf ef (d.toList.take m)).length
 lt:kk<m
 le:m≤d.size
 low:∀(i j:Nat) (x:α),(zaf ef (d.toList.take m))[i]? =some x→j<k→F[i*k+j]! =(enc x)[j]!
 high:∀i j,kk≤i→i<d.size→j<k→F[i*k+j]! =(enc d[i]!)[j]!
theorem qmp {k i j n:Nat} (hi:i<n) (hj:j<k):i*k+j<n*k:=by have:(i+1)*k≤n*k:=Nat.mul_le_mul_right _ hi;rw [Nat.add_mul] at this;omega
theorem CInv.drop {α:Type} [Inhabited α] {ef:α→α→Bool} {enc:α→List Value} {k:Nat} {d:Array α} {m kk:Nat} {F:Array Value} (h:CInv ef enc k d m kk F) (h0:1≤m) (hm:m<d.size) (he:ef d[m]! d[m-1]! =true):CInv ef enc k d (m+1) kk F:=by
 have e:zaf ef (d.toList.take (m+1))=zaf ef (d.toList.take m):=by rw [zoi ef h0 hm,he];simp
 exact ⟨h.size,by rw [e];exact h.len,Nat.lt_succ_of_lt h.lt,hm,by rw [e];exact h.low,h.high⟩
theorem CInv.keep {α:Type} [Inhabited α] {ef:α→α→Bool} {enc:α→List Value} {k:Nat} (hk:∀x,(enc x).length=k) {d:Array α} {m kk:Nat} {F:Array Value} (h:CInv ef enc k d m kk F) (h0:1≤m) (hm:m<d.size) (he:ef d[m]! d[m-1]! =false):
 CInv ef enc k d (m+1) (kk+1) (setMany F (kk*k) (enc d[m]!)):=by
 have e:zaf ef (d.toList.take (m+1))=zaf ef (d.toList.take m)++[d[m]!]:=by rw [zoi ef h0 hm,he];rfl
 have hkk:=h.lt;have get:∀i j,i<d.size→j<k→(setMany F (kk*k) (enc d[m]!))[i*k+j]! =if i=kk then (enc d[m]!)[j]! else F[i*k+j]! :=fun i j hi hj=>by
  rw [get_setMany _ _ _ _ (by rw [h.size];exact qmp hi hj),hk];by_cases hik:i=kk
  ·subst hik;rw [if_pos ⟨by omega,by omega⟩,if_pos rfl]
   congr 1;omega
  ·rw [if_neg hik,if_neg];rintro ⟨h1,h2⟩;rcases Nat.lt_or_gt_of_ne hik with h3|h3
   ·have:(i+1)*k≤kk*k:=Nat.mul_le_mul_right _ h3;rw [Nat.add_mul] at this;omega
   ·have:(kk+1)*k≤i*k:=Nat.mul_le_mul_right _ h3;rw [Nat.add_mul] at this;omega
 refine ⟨by rw [size_setMany];exact h.size,by rw [e,List.length_append,←h.len];rfl,by omega,hm,fun i j x hx hj=> ?_,fun i j h1 h2 hj=> ?_⟩
 ·rw [e] at hx;have hi:i<kk+1:=by have:=(List.getElem?_eq_some_iff.1 hx).1;rw [List.length_append,←h.len] at this;simpa using this
  rw [get i j (by have:=h.le;omega) hj];by_cases hik:i=kk
  ·rw [if_pos hik];rw [hik,h.len,List.getElem?_append_right (Nat.le_refl _)] at hx;simp only [Nat.sub_self,List.getElem?_cons_zero,Option.some.injEq] at hx;rw [hx]
  ·rw [if_neg hik];rw [List.getElem?_append_left (by rw [←h.len];omega)] at hx;exact h.low i j x hx hj
 ·rw [get i j h2 hj,if_neg (by omega)];exact h.high i j (by omega) h2 hj
open Go Go.Sort Go.Proofs Go.Shelf Go.RowKit Go.Lib
def cfFn (T e B I FT U:TypeId):Func:=
 {name:= "",origin:= "slices.CompactFunc",targs:= #[T,e],params:= #[T,FT],resultTypes:= #[T],nfree:=0,ntmps:=66,results:= #[ResultVar.tmp 4],body:=some ((Code.region 0 #[{dst:=some 4,op:=Op.assign (Operand.const (Value.slice none 0 0)),type:=T,pos:= "slices.go:396",after:= #[],guard:=none}] false).seq (((Code.region 1 #[{dst:=some 8,op:=Op.move (Operand.tmp 0),type:=T,pos:= "slices.go:397",after:= #[],guard:=none},{dst:=some 9,op:=Op.call {callee:=Callee.builtin Builtin.len,args:= #[Operand.tmp 8],argTypes:= #[T]},type:=I,pos:= "slices.go:397",after:= #[{on:=0,ground:=Ground.data}],guard:=none},{dst:=some 10,op:=Op.binOp BinOp.lss I (Operand.tmp 9) (Operand.const (Value.int IntKind.i64 2)) I,type:=B,pos:= "slices.go:397",after:= #[{on:=1,ground:=Ground.data}],guard:=none}] false).seq (Code.cond (Operand.tmp 10) ((Code.region 2 #[{dst:=some 11,op:=Op.move (Operand.tmp 0),type:=T,pos:= "slices.go:398",after:= #[],guard:=none},{dst:=some 4,op:=Op.assign (Operand.tmp 11),type:=T,pos:= "slices.go:398",after:= #[{on:=0,ground:=Ground.data},{on:=0,ground:=Ground.phase}],guard:=none}] false).seq Code.ret) Code.skip)).seq (((Code.region 3 #[{dst:=some 5,op:=Op.assign (Operand.const (Value.int IntKind.i64 1)),type:=I,pos:= "slices.go:400",after:= #[],guard:=none}] false).seq (Code.block 0 (((Code.region 4 #[{dst:=some 12,op:=Op.move (Operand.tmp 5),type:=I,pos:= "slices.go:400",after:= #[],guard:=none},{dst:=some 13,op:=Op.move (Operand.tmp 0),type:=T,pos:= "slices.go:400",after:= #[],guard:=none},{dst:=some 14,op:=Op.call {callee:=Callee.builtin Builtin.len,args:= #[Operand.tmp 13],argTypes:= #[T]},type:=I,pos:= "slices.go:400",after:= #[{on:=1,ground:=Ground.data}],guard:=none},{dst:=some 15,op:=Op.binOp BinOp.lss I (Operand.tmp 12) (Operand.tmp 14) I,type:=B,pos:= "slices.go:400",after:= #[{on:=0,ground:=Ground.data},{on:=2,ground:=Ground.data}],guard:=none}] false).seq (Code.cond (Operand.tmp 15) Code.skip (Code.exit 0))).seq ((Code.block 1 ((Code.region 6 #[{dst:=some 18,op:=Op.move (Operand.tmp 1),type:=FT,pos:= "slices.go:401",after:= #[],guard:=none},{dst:=some 19,op:=Op.move (Operand.tmp 0),type:=T,pos:= "slices.go:401",after:= #[],guard:=none},{dst:=some 20,op:=Op.move (Operand.tmp 5),type:=I,pos:= "slices.go:401",after:= #[],guard:=none},{dst:=some 21,op:=Op.indexAddr T (Operand.tmp 19) (Operand.tmp 20),type:=U,pos:= "slices.go:401",after:= #[{on:=1,ground:=Ground.data},{on:=2,ground:=Ground.data}],guard:=none},{dst:=some 22,op:=Op.load e (Operand.tmp 21),type:=e,pos:= "slices.go:401",after:= #[{on:=3,ground:=Ground.data}],guard:=none},{dst:=some 23,op:=Op.move (Operand.tmp 0),type:=T,pos:= "slices.go:401",after:= #[],guard:=none},{dst:=some 24,op:=Op.move (Operand.tmp 5),type:=I,pos:= "slices.go:401",after:= #[],guard:=none},{dst:=some 25,op:=Op.binOp BinOp.sub I (Operand.tmp 24) (Operand.const (Value.int IntKind.i64 1)) I,type:=I,pos:= "slices.go:401",after:= #[{on:=6,ground:=Ground.data}],guard:=none},{dst:=some 26,op:=Op.indexAddr T (Operand.tmp 23) (Operand.tmp 25),type:=U,pos:= "slices.go:401",after:= #[{on:=5,ground:=Ground.data},{on:=7,ground:=Ground.data}],guard:=none},{dst:=some 27,op:=Op.load e (Operand.tmp 26),type:=e,pos:= "slices.go:401",after:= #[{on:=8,ground:=Ground.data}],guard:=none},{dst:=some 28,op:=Op.call {callee:=Callee.value (Operand.tmp 18),args:= #[Operand.tmp 22,Operand.tmp 27],argTypes:= #[e,e]},type:=B,pos:= "slices.go:401",after:= #[{on:=0,ground:=Ground.data},{on:=4,ground:=Ground.data},{on:=9,ground:=Ground.data}],guard:=none}] true).seq (Code.cond (Operand.tmp 28) ((Code.region 7 #[{dst:=some 29,op:=Op.move (Operand.tmp 0),type:=T,pos:= "slices.go:402",after:= #[],guard:=none},{dst:=some 30,op:=Op.move (Operand.tmp 5),type:=I,pos:= "slices.go:402",after:= #[],guard:=none},{dst:=some 31,op:=Op.slice T (Operand.tmp 29) (some (Operand.tmp 30)) none none,type:=T,pos:= "slices.go:402",after:= #[{on:=0,ground:=Ground.data},{on:=1,ground:=Ground.data}],guard:=none},{dst:=some 6,op:=Op.assign (Operand.tmp 31),type:=T,pos:= "slices.go:402",after:= #[{on:=2,ground:=Ground.data},{on:=0,ground:=Ground.phase},{on:=1,ground:=Ground.phase},{on:=2,ground:=Ground.phase}],guard:=none}] false).seq (((Code.region 8 #[{dst:=some 7,op:=Op.assign (Operand.const (Value.int IntKind.i64 1)),type:=I,pos:= "slices.go:403",after:= #[],guard:=none}] false).seq (Code.block 2 (((Code.region 9 #[{dst:=some 32,op:=Op.move (Operand.tmp 7),type:=I,pos:= "slices.go:403",after:= #[],guard:=none},{dst:=some 33,op:=Op.move (Operand.tmp 6),type:=T,pos:= "slices.go:403",after:= #[],guard:=none},{dst:=some 34,op:=Op.call {callee:=Callee.builtin Builtin.len,args:= #[Operand.tmp 33],argTypes:= #[T]},type:=I,pos:= "slices.go:403",after:= #[{on:=1,ground:=Ground.data}],guard:=none},{dst:=some 35,op:=Op.binOp BinOp.lss I (Operand.tmp 32) (Operand.tmp 34) I,type:=B,pos:= "slices.go:403",after:= #[{on:=0,ground:=Ground.data},{on:=2,ground:=Ground.data}],guard:=none}] false).seq (Code.cond (Operand.tmp 35) Code.skip (Code.exit 2))).seq ((Code.block 3 ((Code.region 11 #[{dst:=some 38,op:=Op.move (Operand.tmp 1),type:=FT,pos:= "slices.go:404",after:= #[],guard:=none},{dst:=some 39,op:=Op.move (Operand.tmp 6),type:=T,pos:= "slices.go:404",after:= #[],guard:=none},{dst:=some 40,op:=Op.move (Operand.tmp 7),type:=I,pos:= "slices.go:404",after:= #[],guard:=none},{dst:=some 41,op:=Op.indexAddr T (Operand.tmp 39) (Operand.tmp 40),type:=U,pos:= "slices.go:404",after:= #[{on:=1,ground:=Ground.data},{on:=2,ground:=Ground.data}],guard:=none},{dst:=some 42,op:=Op.load e (Operand.tmp 41),type:=e,pos:= "slices.go:404",after:= #[{on:=3,ground:=Ground.data}],guard:=none},{dst:=some 43,op:=Op.move (Operand.tmp 6),type:=T,pos:= "slices.go:404",after:= #[],guard:=none},{dst:=some 44,op:=Op.move (Operand.tmp 7),type:=I,pos:= "slices.go:404",after:= #[],guard:=none},{dst:=some 45,op:=Op.binOp BinOp.sub I (Operand.tmp 44) (Operand.const (Value.int IntKind.i64 1)) I,type:=I,pos:= "slices.go:404",after:= #[{on:=6,ground:=Ground.data}],guard:=none},{dst:=some 46,op:=Op.indexAddr T (Operand.tmp 43) (Operand.tmp 45),type:=U,pos:= "slices.go:404",after:= #[{on:=5,ground:=Ground.data},{on:=7,ground:=Ground.data}],guard:=none},{dst:=some 47,op:=Op.load e (Operand.tmp 46),type:=e,pos:= "slices.go:404",after:= #[{on:=8,ground:=Ground.data}],guard:=none},{dst:=some 48,op:=Op.call {callee:=Callee.value (Operand.tmp 38),args:= #[Operand.tmp 42,Operand.tmp 47],argTypes:= #[e,e]},type:=B,pos:= "slices.go:404",after:= #[{on:=0,ground:=Ground.data},{on:=4,ground:=Ground.data},{on:=9,ground:=Ground.data}],guard:=none},{dst:=some 49,op:=Op.unOp UnOp.not B (Operand.tmp 48),type:=B,pos:= "slices.go:404",after:= #[{on:=10,ground:=Ground.data}],guard:=none}] true).seq (Code.cond (Operand.tmp 49) ((Code.region 12 #[{dst:=some 50,op:=Op.move (Operand.tmp 0),type:=T,pos:= "slices.go:405",after:= #[],guard:=none},{dst:=some 51,op:=Op.move (Operand.tmp 5),type:=I,pos:= "slices.go:405",after:= #[],guard:=none},{dst:=some 52,op:=Op.move (Operand.tmp 6),type:=T,pos:= "slices.go:405",after:= #[],guard:=none},{dst:=some 53,op:=Op.move (Operand.tmp 7),type:=I,pos:= "slices.go:405",after:= #[],guard:=none},{dst:=some 54,op:=Op.indexAddr T (Operand.tmp 52) (Operand.tmp 53),type:=U,pos:= "slices.go:405",after:= #[{on:=2,ground:=Ground.data},{on:=3,ground:=Ground.data}],guard:=none},{dst:=some 55,op:=Op.load e (Operand.tmp 54),type:=e,pos:= "slices.go:405",after:= #[{on:=4,ground:=Ground.data}],guard:=none},{dst:=some 56,op:=Op.indexAddr T (Operand.tmp 50) (Operand.tmp 51),type:=U,pos:= "slices.go:405",after:= #[{on:=0,ground:=Ground.data},{on:=1,ground:=Ground.data},{on:=0,ground:=Ground.phase},{on:=1,ground:=Ground.phase},{on:=2,ground:=Ground.phase},{on:=3,ground:=Ground.phase},{on:=4,ground:=Ground.phase},{on:=5,ground:=Ground.phase}],guard:=none},{dst:=none,op:=Op.store e (Operand.tmp 56) (Operand.tmp 55),type:=U,pos:= "slices.go:405",after:= #[{on:=6,ground:=Ground.data},{on:=5,ground:=Ground.data},{on:=0,ground:=Ground.phase},{on:=1,ground:=Ground.phase},{on:=2,ground:=Ground.phase},{on:=3,ground:=Ground.phase},{on:=4,ground:=Ground.phase},{on:=5,ground:=Ground.phase}],guard:=none}] false).seq (Code.region 13 #[{dst:=some 57,op:=Op.move (Operand.tmp 5),type:=I,pos:= "slices.go:406",after:= #[],guard:=none},{dst:=some 58,op:=Op.binOp BinOp.add I (Operand.tmp 57) (Operand.const (Value.int IntKind.i64 1)) I,type:=I,pos:= "slices.go:406",after:= #[{on:=0,ground:=Ground.data}],guard:=none},{dst:=some 5,op:=Op.assign (Operand.tmp 58),type:=I,pos:= "slices.go:406",after:= #[{on:=1,ground:=Ground.data},{on:=0,ground:=Ground.phase},{on:=1,ground:=Ground.phase}],guard:=none}] false)) Code.skip))).seq (Code.region 10 #[{dst:=some 36,op:=Op.move (Operand.tmp 7),type:=I,pos:= "slices.go:403",after:= #[],guard:=none},{dst:=some 37,op:=Op.binOp BinOp.add I (Operand.tmp 36) (Operand.const (Value.int IntKind.i64 1)) I,type:=I,pos:= "slices.go:403",after:= #[{on:=0,ground:=Ground.data}],guard:=none},{dst:=some 7,op:=Op.assign (Operand.tmp 37),type:=I,pos:= "slices.go:403",after:= #[{on:=1,ground:=Ground.data},{on:=0,ground:=Ground.phase},{on:=1,ground:=Ground.phase}],guard:=none}] false))).loop)).seq ((Code.region 14 #[{dst:=some 59,op:=Op.move (Operand.tmp 0),type:=T,pos:= "slices.go:410",after:= #[],guard:=none},{dst:=some 60,op:=Op.move (Operand.tmp 5),type:=I,pos:= "slices.go:410",after:= #[],guard:=none},{dst:=some 61,op:=Op.slice T (Operand.tmp 59) (some (Operand.tmp 60)) none none,type:=T,pos:= "slices.go:410",after:= #[{on:=0,ground:=Ground.data},{on:=1,ground:=Ground.data}],guard:=none},{dst:=none,op:=Op.call {callee:=Callee.builtin Builtin.clear,args:= #[Operand.tmp 61],argTypes:= #[T]},type:=U,pos:= "slices.go:410",after:= #[{on:=2,ground:=Ground.data}],guard:=none}] false).seq ((Code.region 15 #[{dst:=some 62,op:=Op.move (Operand.tmp 0),type:=T,pos:= "slices.go:411",after:= #[],guard:=none},{dst:=some 63,op:=Op.move (Operand.tmp 5),type:=I,pos:= "slices.go:411",after:= #[],guard:=none},{dst:=some 64,op:=Op.slice T (Operand.tmp 62) none (some (Operand.tmp 63)) none,type:=T,pos:= "slices.go:411",after:= #[{on:=0,ground:=Ground.data},{on:=1,ground:=Ground.data}],guard:=none},{dst:=some 4,op:=Op.assign (Operand.tmp 64),type:=T,pos:= "slices.go:411",after:= #[{on:=2,ground:=Ground.data},{on:=0,ground:=Ground.phase},{on:=1,ground:=Ground.phase},{on:=2,ground:=Ground.phase}],guard:=none}] false).seq Code.ret)))) Code.skip))).seq (Code.region 5 #[{dst:=some 16,op:=Op.move (Operand.tmp 5),type:=I,pos:= "slices.go:400",after:= #[],guard:=none},{dst:=some 17,op:=Op.binOp BinOp.add I (Operand.tmp 16) (Operand.const (Value.int IntKind.i64 1)) I,type:=I,pos:= "slices.go:400",after:= #[{on:=0,ground:=Ground.data}],guard:=none},{dst:=some 5,op:=Op.assign (Operand.tmp 17),type:=I,pos:= "slices.go:400",after:= #[{on:=1,ground:=Ground.data},{on:=0,ground:=Ground.phase},{on:=1,ground:=Ground.phase}],guard:=none}] false))).loop)).seq ((Code.region 16 #[{dst:=some 65,op:=Op.move (Operand.tmp 0),type:=T,pos:= "slices.go:414",after:= #[],guard:=none},{dst:=some 4,op:=Op.assign (Operand.tmp 65),type:=T,pos:= "slices.go:414",after:= #[{on:=0,ground:=Ground.data},{on:=0,ground:=Ground.phase}],guard:=none}] false).seq Code.ret)))),norace:=false,file:= "slices/slices.go",endLine:=415,tmpNames:=(["s", "eq", "s", "eq", "", "k", "s2", "k2", "", "", "", "", "", "", "", "", "", "", "", "", "", "", "", "", "", "", "", "", "", "", "", "", ""].append ["", "", "", "", "", "", "", "", "", "", "", "", "", "", "", "", "", "", "", "", "", "", "", "", "", "", "", "", "", "", "", "", ""]).toArray}
theorem qmb (T e B I FT U:TypeId):(cfFn T e B I FT U).ntmps=66:=rfl
def cw (w:World) (blk off n:Nat) (F:Array Value) (os:Array Obj):World:=grow (putRow id (Go.Sort.ahead w n) blk off F) os
theorem qeb (w:World) (blk off n n':Nat) (F:Array Value) (os os':Array Obj):grow ((cw w blk off n F os).drewN n') os'=cw w blk off (n+n') F (os++os'):=by unfold cw;show grow (grow ((putRow id (Go.Sort.ahead w n) blk off F).drewN n') os) os'=_;rw [grow_grow,putRow_drewN]
theorem cw_holds {w:World} {blk off:Nat} {F0 F:Array Value} (h:Holds id w blk off F0) (hs:F.size=F0.size) (hblk:blk<w.heap.size) (n:Nat) (os:Array Obj):Holds id (cw w blk off n F os) blk off F:=
 holds_grow id _ os blk off F (by simpa [putRow,mapBlock,Go.Sort.ahead] using hblk) (holds_putRow id _ blk off F0 F (holds_ahead id w n blk off F0 h) hs)
theorem qpj {w:World} {blk off n s:Nat} {F:Array Value} {os:Array Obj} (hblk:blk<w.heap.size) {vs:List Value} (hs:s+vs.length≤F.size):(cw w blk off n F os).setCells blk (off+s) vs=cw w blk off n (setMany F s vs) os:=by unfold cw;rw [setCells_grow os blk _ _ _ (by simpa [putRow,mapBlock,Go.Sort.ahead] using hblk),setCells_putRow _ _ _ _ _ _ hs]
theorem yna {α:Type} (P:Program) {W:World} {blk off k i a:Nat} {F:Array Value} {enc:α→List Value} {x:α} (hk:(enc x).length=k) (h:Holds id W blk off F) (hrow:∀j,j<k→F[i*k+j]! =(enc x)[j]!) (hF:i*k+k≤F.size) (ha:a=off+i*k):
 Sem.run P (loadCellsFrom ⟨blk,a,none⟩ 0 k #[]) W= .ok (enc x).toArray W:=by
 subst ha;refine run_loadCellsFrom_list P _ _ _ k hk fun j v hj=> ?_
 have hjk:j<k:=by have:=(List.getElem?_eq_some_iff.1 hj).1;omega
 rw [Addr.add_lit,Nat.add_assoc,(h (i*k+j) (by omega)).1,hrow j hjk];obtain ⟨h1,h2⟩:=List.getElem?_eq_some_iff.1 hj;rw [getElem!_pos (enc x) j h1,h2];rfl
set_option maxHeartbeats 4000000 in
set_option maxRecDepth 1000000 in
theorem xij {P:Program} {α:Type} [Inhabited α] {f T e B I FT U:Nat} (mixed:P.follows .mixedOrders=true) (L:Bears P f (cfFn T e B I FT U))
 (t0:P.underlying U=some (TypeDesc.tuple #[])) (t3:P.underlying I=some (TypeDesc.int IntKind.i64)) (t4:P.underlying B=some TypeDesc.bool) (t22:P.underlying T=some (TypeDesc.slice e)) {fas frs:Array TypeId} (t25:P.underlying FT=some (TypeDesc.func fas frs false))
 (a0:∀w,(isAgg U).run P w= .ok false w) (a3:∀w,(isAgg I).run P w= .ok false w) (a4:∀w,(isAgg B).run P w= .ok false w) (a22:∀w,(isAgg T).run P w= .ok false w) (a25:∀w,(isAgg FT).run P w= .ok false w)
 (z3:∀w,(Go.sizeOf I).run P w= .ok 1 w) (z4:∀w,(Go.sizeOf B).run P w= .ok 1 w) (z22:∀w,(Go.sizeOf T).run P w= .ok 1 w) (z25:∀w,(Go.sizeOf FT).run P w= .ok 1 w)
 (k:Nat) (aE:∀w,(isAgg e).run P w= .ok true w) (zE:∀w,(Go.sizeOf e).run P w= .ok k w) (z:Value) (vE:∀w,(zeroValue e).run P w= .ok z w) (hz:z.cells.size=k) (hz1:∀v∈z.cells.toList,v.oneCell'=true)
 (enc:α→List Value) (hk:∀x,(enc x).length=k) (h1:∀x,∀v∈enc x,v.oneCell'=true) (ef:α→α→Bool) (c:Nat) (cb:Array Value) (blk off cap:Nat) (d:Array α) (w:World)
 (ec:∀args w,(callFunc c args).run P w= .ok (.enter c args) w)
 (hcmp:∀(n:Nat) (F:Array Value) (os:Array Obj),F.size=d.size*k→∀x y:α,Calls P c (#[.agg (enc x).toArray,.agg (enc y).toArray]++cb) (cw w blk off n F os) fun e w'=>e= .returned (.bool (ef x y))∧∃q os',w'=grow ((cw w blk off n F os).drewN q) os')
 (hH:HoldsK enc k w blk off d) (hblk:blk<w.heap.size) (hsz:d.size≤9223372036854775807) (hcap:d.size≤cap):
 Calls P f #[.slice (some ⟨blk,off,none⟩) d.size cap,.func (.func c) #[] cb] w fun e w'=>
  ∃(n:Nat) (F:Array Value) (os:Array Obj),e= .returned (.slice (some ⟨blk,off,none⟩) (zaf ef d.toList).length cap)∧F.size=d.size*k∧
   (∀(i j:Nat) (x:α),(zaf ef d.toList)[i]? =some x→j<k→F[i*k+j]! =(enc x)[j]!)∧w'=cw w blk off n F os:=by
 have HC:Aside _:=hcmp;have ZZ:Hid (z.cells.size=k∧(∀v∈z.cells.toList,v.oneCell'=true)∧∀w,(zeroValue e).run P w= .ok z w):=⟨hz,hz1,vE⟩;clear hz hz1 vE;have whole:∀n os,(∀j,1≤j→j<d.size→ef d[j]! d[j-1]! =false)→∃(n':Nat) (F:Array Value) (os':Array Obj),(zaf ef d.toList).length=d.size∧F.size=d.size*k∧(∀(i j:Nat) (x:α),(zaf ef d.toList)[i]? =some x→j<k→F[i*k+j]! =(enc x)[j]!)∧grow (w.drewN n) os=cw w blk off n' F os':=fun n os hn=>by
  have e1:=zoj ef d.size (Nat.le_refl _) hn;have e2:d.toList.take d.size=d.toList:=List.take_of_length_le (by simp);rw [e2] at e1;refine ⟨n,flatK enc k d,os,by rw [e1];simp,size_flatK ..,fun i j x hx hj=> ?_,?_⟩
  ·rw [e1] at hx;obtain ⟨hi,hx⟩:=List.getElem?_eq_some_iff.1 hx;simp only [Array.length_toList,Array.getElem_toList] at hi hx;rw [get_flatK _ _ _ _ (qmp hi hj)];have h1:(i*k+j)/k=i:=by rw [Nat.add_comm,Nat.add_mul_div_right _ _ (by omega),Nat.div_eq_of_lt hj,Nat.zero_add]
   have h2:(i*k+j) % k=j:=by rw [Nat.add_comm,Nat.add_mul_mod_self_right,Nat.mod_eq_of_lt hj]
   rw [h1,h2,getElem!_pos d i hi,hx]
  ·unfold cw
   congr 1
   exact (putRowK_self enc k (Go.Sort.ahead w n) blk off d (holdsK_ahead enc k w n blk off d hH)).symm
 have WH:Hid _:=whole;clear whole;have HH:Hid (HoldsK enc k w blk off d):=hH;have HK:Hid (∀x,(enc x).length=k):=hk;have H1:Hid (∀x,∀v∈enc x,v.oneCell'=true):=h1;clear hcmp hH hk h1;obtain ⟨nm,_,FG⟩:=L;go_enter FG,qmb T e B I FT U;have hcells:∀n' os' i,i<d.size→Sem.run P (loadCellsFrom ⟨blk,off+i*k,none⟩ 0 k #[]) (grow (w.drewN n') os')= .ok (enc d[i]!).toArray (grow (w.drewN n') os'):=fun n' os' i hi=>run_loadCellsFrom_list P _ _ _ k (HK.out _) (HoldsK.cells (holdsK_grow enc k _ os' blk off d hblk (holdsK_ahead enc k w n' blk off d HH.out)) HK.out hi)
 have LD:Hid _:=hcells;clear hcells;by_cases h2:d.size<2
 ·have h2z:(d.size:Int)<2:=by omega
  go_wp2;go_ret;obtain ⟨n',F,os',h3,h4,h5,h6⟩:=WH.out 0 #[] fun j h1 h2=>by omega
  exact ⟨n',F,os',by rw [h3];rfl,h4,h5,by rw [←h6,grow_empty];rfl⟩
 ·have h2z:¬(d.size:Int)<2:=by omega
  go_wp2;go_loopg [5] d.size (fun g s5 wr=>∃(kk n:Nat) (os:Array Obj),1≤kk∧kk≤d.size∧d.size-kk≤g∧s5= .int .i64 kk∧wr=grow (w.drewN n) os∧Hid (∀j,1≤j→j<kk→ef d[j]! d[j-1]! =false))
  case atStart=>exact ⟨1,0,#[],Nat.le_refl _,by omega,by omega,rfl,(grow_empty _).symm,fun j hj hj'=>by omega⟩
  case round=>
   obtain ⟨kk,n,os,hk1,hkd,hg,rfl,rfl,HA⟩:=hrel;by_cases hlt:kk<d.size
   ·obtain ⟨kp,rfl⟩:∃kp,kk=kp+1:=⟨kk-1,by omega⟩;have lx:=fun n' os'=>LD.out n' os' (kp+1) hlt
    have ly:=fun n' os'=>LD.out n' os' kp (by omega)
    have hg0:grow (w.drewN n) os=grow (w.drewN n) os:=rfl;obtain ⟨x,hx⟩:∃x,d[kp+1]! =x:=⟨_,rfl⟩;obtain ⟨y,hy⟩:∃y,d[kp]! =y:=⟨_,rfl⟩;rw [hx] at lx;rw [hy] at ly;have hcg:∀n' os',Calls P c (#[.agg (enc x).toArray,.agg (enc y).toArray]++cb) (grow (w.drewN n') os') fun e w'=>e= .returned (.bool (ef x y))∧∃q os'',w'=grow ((grow (w.drewN n') os').drewN q) os'':=fun n' os'=>by
     have h:=HC.out n' (flatK enc k d) os' (size_flatK ..) x y;have e:cw w blk off n' (flatK enc k d) os'=grow (w.drewN n') os':=by
      unfold cw
      congr 1
      exact putRowK_self enc k (Go.Sort.ahead w n') blk off d (holdsK_ahead enc k w n' blk off d HH.out)
     rwa [e] at h
    have lx':∀n' os',Sem.run P (loadCellsFrom ⟨blk,off+(kp+1)*k,none⟩ 0 k #[]) (grow ((grow (w.drewN n) os).drewN n') os')= .ok (enc x).toArray (grow ((grow (w.drewN n) os).drewN n') os'):=fun n' os'=>by
     have e:grow ((grow (w.drewN n) os).drewN n') os'=grow (w.drewN (n+n')) (os++os'):=by show grow (grow ((w.drewN n).drewN n') os) os'=_;rw [grow_grow,World.drewN_drewN]
     rw [e];exact lx _ _
    have ly':∀n' os',Sem.run P (loadCellsFrom ⟨blk,off+kp*k,none⟩ 0 k #[]) (grow ((grow (w.drewN n) os).drewN n') os')= .ok (enc y).toArray (grow ((grow (w.drewN n) os).drewN n') os'):=fun n' os'=>by
     have e:grow ((grow (w.drewN n) os).drewN n') os'=grow (w.drewN (n+n')) (os++os'):=by show grow (grow ((w.drewN n).drewN n') os) os'=_;rw [grow_grow,World.drewN_drewN]
     rw [e];exact ly _ _
    have hcg':∀n' os',Calls P c (#[.agg (enc x).toArray,.agg (enc y).toArray]++cb) (grow ((grow (w.drewN n) os).drewN n') os') fun e w'=>e= .returned (.bool (ef x y))∧∃q os'',w'=grow ((grow ((grow (w.drewN n) os).drewN n') os').drewN q) os'':=fun n' os'=>by
     have e:grow ((grow (w.drewN n) os).drewN n') os'=grow (w.drewN (n+n')) (os++os'):=by show grow (grow ((w.drewN n).drewN n') os) os'=_;rw [grow_grow,World.drewN_drewN]
     rw [e];exact hcg _ _
    have hg1:∀n' os',grow ((grow (w.drewN n) os).drewN n') os'=grow (w.drewN (n+n')) (os++os'):=fun n' os'=>by show grow (grow ((w.drewN n).drewN n') os) os'=_;rw [grow_grow,World.drewN_drewN]
    have HG1:Hid _:=hg1;clear lx ly hcg hg1;have hlz:(kp:Int)+1<(d.size:Int):=by omega
    have hlz1:(kp:Int)<(d.size:Int):=by omega
    have p0:(0:Int)≤(kp:Int)+1:=by omega
    have e0:((kp:Int)+1).toNat=kp+1:=by omega
    have hwp:IntKind.i64.wrap (kp:Int)=(kp:Int):=by rw [IntKind.wrap_i64];omega
    generalize hwq:grow (w.drewN n) os=wq at lx' ly' hcg' HG1 ⊢;by_cases hef:ef x y=true
    ·rw [hef] at hcg';go_wp2_with fail;go_quiet_grown (first|(go_at_fn c;refine Calls.grown_of (hcg' _ _)));go_wp2_with fail;have hw2:grow (wq.drewN nq) osq=cw w blk off (n+nq) (flatK enc k d) (os++osq):=by
      rw [HG1.out];unfold cw
      congr 1
      exact (putRowK_self enc k (Go.Sort.ahead w (n+nq)) blk off d (holdsK_ahead enc k w (n+nq) blk off d HH.out)).symm
     have hstart:CInv ef enc k d (kp+1+1) (kp+1) (flatK enc k d):=by
      have e1:zaf ef (d.toList.take (kp+1))=d.toList.take (kp+1):=zoj ef (kp+1) (by omega) HA.out;have e2:zaf ef (d.toList.take (kp+1+1))=d.toList.take (kp+1):=by rw [zoi ef (by omega) hlt,show d[kp+1]! =x from hx,show d[kp+1-1]! =y from hy,hef,e1];simp
      have get:∀i j,i<d.size→j<k→(flatK enc k d)[i*k+j]! =(enc d[i]!)[j]! :=fun i j hi hj=>by
       rw [get_flatK _ _ _ _ (qmp hi hj)];have h1:(i*k+j)/k=i:=by rw [Nat.add_comm,Nat.add_mul_div_right _ _ (by omega),Nat.div_eq_of_lt hj,Nat.zero_add]
       have h2:(i*k+j) % k=j:=by rw [Nat.add_comm,Nat.add_mul_mod_self_right,Nat.mod_eq_of_lt hj]
       rw [h1,h2]
      refine ⟨size_flatK ..,by rw [e2,List.length_take,Array.length_toList,Nat.min_eq_left (by omega)],by omega,hlt,fun i j z hz hj=> ?_,fun i j _ hi hj=>get i j hi hj⟩;rw [e2,List.getElem?_take] at hz;split at hz
      ·rename_i hi;rw [get i j (by omega) hj];rw [List.getElem?_eq_getElem (by simp;omega)] at hz;simp only [Option.some.injEq,Array.getElem_toList] at hz;rw [getElem!_pos d i (by omega),hz]
      ·cases hz
     have HS:Hid _:=hstart;clear hstart lx' ly' hcg' HG1 hwq;rw [hw2];clear hw2;go_loopg [5,7] d.size (fun g s5 s7 wr=>∃(kk k2 n2:Nat) (F:Array Value) (os2:Array Obj),s5= .int .i64 kk∧s7= .int .i64 k2∧1≤k2∧kp+1+k2≤d.size∧d.size-(kp+1+k2)≤g∧wr=cw w blk off n2 F os2∧Hid (CInv ef enc k d (kp+1+k2) kk F))
     case atStart=>exact ⟨kp+1,1,n+nq,flatK enc k d,os++osq,by go_num,rfl,Nat.le_refl _,by omega,by omega,rfl,HS.out⟩
     case round=>
      obtain ⟨kk,k2,n2,F,os2,rfl,rfl,hk21,hk2d,hg2,rfl,HI⟩:=hrel;by_cases hlt2:kp+1+k2<d.size
      ·obtain ⟨k3,rfl⟩:∃k3,k2=k3+1:=⟨k2-1,by omega⟩;obtain ⟨u,hu⟩:∃u,d[kp+1+(k3+1)]! =u:=⟨_,rfl⟩;obtain ⟨v,hv⟩:∃v,d[kp+1+k3]! =v:=⟨_,rfl⟩;have hkk:kk<kp+1+(k3+1):=HI.out.lt;have hFs:F.size=d.size*k:=HI.out.size;have hholds:∀n' os',Holds id (grow ((cw w blk off n2 F os2).drewN n') os') blk off F:=fun n' os'=>by rw [qeb];exact cw_holds HH.out (by rw [hFs,size_flatK]) hblk _ _
       have bnd:∀i,i<d.size→i*k+k≤F.size:=fun i hi=>by rw [hFs];have:=Nat.mul_le_mul_right k (show i+1≤d.size from hi);rwa [Nat.add_mul,Nat.one_mul] at this
       have lu:∀n' os',Sem.run P (loadCellsFrom ⟨blk,off+(kp+1)*k+(k3+1)*k,none⟩ 0 k #[]) (grow ((cw w blk off n2 F os2).drewN n') os')= .ok (enc u).toArray (grow ((cw w blk off n2 F os2).drewN n') os'):=fun n' os'=>yna P (i:=kp+1+(k3+1)) (HK.out u) (hholds n' os') (fun j hj=>by rw [HI.out.high _ j (by omega) hlt2 hj,hu]) (bnd _ hlt2) (by rw [Nat.add_mul (kp+1),Nat.add_assoc])
       have lv:∀n' os',Sem.run P (loadCellsFrom ⟨blk,off+(kp+1)*k+k3*k,none⟩ 0 k #[]) (grow ((cw w blk off n2 F os2).drewN n') os')= .ok (enc v).toArray (grow ((cw w blk off n2 F os2).drewN n') os'):=fun n' os'=>yna P (i:=kp+1+k3) (HK.out v) (hholds n' os') (fun j hj=>by rw [HI.out.high _ j (by omega) (by omega) hj,hv]) (bnd _ (by omega)) (by rw [Nat.add_mul (kp+1),Nat.add_assoc])
       have hcg2:∀n' os',Calls P c (#[.agg (enc u).toArray,.agg (enc v).toArray]++cb) (grow ((cw w blk off n2 F os2).drewN n') os') fun e w'=>e= .returned (.bool (ef u v))∧∃q os'',w'=grow ((grow ((cw w blk off n2 F os2).drewN n') os').drewN q) os'':=fun n' os'=>by rw [qeb];exact HC.out _ F _ hFs u v
       have HB:Hid _:=bnd;have HF:Hid (F.size=d.size*k):=hFs;clear hholds bnd hFs;have CG:Hid (∀n' os',grow ((cw w blk off n2 F os2).drewN n') os'=cw w blk off (n2+n') F (os2++os')):=fun n' os'=>qeb ..
       have hl1:(k3:Int)+1<((d.size-(kp+1):Nat):Int):=by omega
       have hl2:(k3:Int)<((d.size-(kp+1):Nat):Int):=by omega
       have p1:(0:Int)≤(k3:Int)+1:=by omega
       have e1:((k3:Int)+1).toNat=k3+1:=by omega
       have hwp1:IntKind.i64.wrap (k3:Int)=(k3:Int):=by rw [IntKind.wrap_i64];omega
       generalize hwr:cw w blk off n2 F os2=wr at lu lv hcg2 CG ⊢;by_cases hef2:ef u v=true
       ·rw [hef2] at hcg2;go_wp2_with fail;go_quiet_grown (first|(go_at_fn c;refine Calls.grown_of (hcg2 _ _)));go_wp2_with fail;go_roundg (d.size-(kp+1+(k3+1+1)))
        case measure=>omega
        case rel=>exact ⟨kk,k3+1+1,n2+nq,F,os2++osq,rfl,by go_num,by omega,by omega,Nat.le_refl _,CG.out _ _,HI.out.drop (by omega) hlt2 (by rw [show d[kp+1+(k3+1)]! =u from hu,show d[kp+1+(k3+1)-1]! =v from hv,hef2])⟩
       ·simp only [Bool.not_eq_true] at hef2;rw [hef2] at hcg2;go_wp2_with fail;go_quiet_grown (first|(go_at_fn c;refine Calls.grown_of (hcg2 _ _)));have hw3:grow (wr.drewN nq) osq=cw w blk off (n2+nq) F (os2++osq):=CG.out nq osq;have lu3:=lu nq osq;have hH3:Holds id (grow (wr.drewN nq) osq) blk off F:=by rw [hw3];exact cw_holds HH.out (by rw [HF.out,size_flatK]) hblk _ _
        have st3:Sem.run P (storeCells ⟨blk,off+kk*k,none⟩ (enc u) 0) (grow (wr.drewN nq) osq)= .ok () ((grow (wr.drewN nq) osq).setCells blk (off+kk*k) (enc u)):=stores_of_holds P hH3 (kk*k) (enc u) (by rw [HK.out];exact HB.out kk (by omega)) (H1.out u);have HW3:Hid ((grow (wr.drewN nq) osq).setCells blk (off+kk*k) (enc u)=cw w blk off (n2+nq) (setMany F (kk*k) (enc u)) (os2++osq)):=by show _=_;rw [hw3,qpj hblk (by rw [HK.out];exact HB.out kk (by omega))]
        have hsu:(enc u).length=k:=HK.out u;have hkz:(kk:Int)<(d.size:Int):=by omega
        clear lu lv hcg2 hH3 hw3;generalize grow (wr.drewN nq) osq=w3 at lu3 st3 HW3 ⊢;go_wp2_with fail;go_roundg (d.size-(kp+1+(k3+1+1)))
        case measure=>omega
        case rel=>exact ⟨kk+1,k3+1+1,n2+nq,setMany F (kk*k) (enc u),os2++osq,by go_num,by go_num,by omega,by omega,Nat.le_refl _,HW3.out,HI.out.keep HK.out (by omega) hlt2 (by rw [show d[kp+1+(k3+1)]! =u from hu,show d[kp+1+(k3+1)-1]! =v from hv,hef2]) |> fun h=>by rw [show d[kp+1+(k3+1)]! =u from hu] at h;exact h⟩
      ·have hend:kp+1+k2=d.size:=by omega
       have hkk:kk<d.size:=by have:=HI.out.lt;omega
       have hFs:F.size=d.size*k:=HI.out.size;have hn0:0<d.size-kk:=by omega
       have hzl:(Builtin.zeroCells z.cells (d.size-kk)).toList.length=(d.size-kk)*k:=by simp [Builtin.zeroCells,ZZ.out.1]
       have hzo:∀v∈(Builtin.zeroCells z.cells (d.size-kk)).toList,v.oneCell'=true:=fun v hv=>by
        simp only [Builtin.zeroCells,Array.toList_map,List.mem_map,Array.mem_toList_iff,Array.mem_range] at hv;obtain ⟨t,ht,rfl⟩:=hv;have hpos:0<z.cells.size:=by
         rcases Nat.eq_zero_or_pos z.cells.size with h0|h0
         ·rw [h0,Nat.mul_zero] at ht;omega
         ·exact h0
        have hm:=Nat.mod_lt t hpos;refine ZZ.out.2.1 _ ?_;simp [Array.getD_eq_getD_getElem?,hm]
       have hfit:kk*k+(Builtin.zeroCells z.cells (d.size-kk)).toList.length≤F.size:=by rw [hzl,hFs,←Nat.add_mul];exact Nat.mul_le_mul_right _ (by omega)
       have hst:=stores_of_holds P (cw_holds HH.out (F:=F) (by rw [hFs,size_flatK]) hblk n2 os2) (kk*k) (Builtin.zeroCells z.cells (d.size-kk)).toList hfit hzo;have hcl:∀ty,(Builtin.clear_ #[T] ty #[.slice (some ⟨blk,off+kk*k,none⟩) (d.size-kk) (cap-kk)]).run P (cw w blk off n2 F os2)= .ok (.tuple #[]) ((cw w blk off n2 F os2).setCells blk (off+kk*k) (Builtin.zeroCells z.cells (d.size-kk)).toList):=fun ty=>by obtain ⟨m,hm⟩:∃m,d.size-kk=m+1:=⟨d.size-kk-1,by omega⟩;rw [hm] at hst ⊢;simp [Builtin.clear_,run_underlying t22,ZZ.out.2.2,hst]
       rw [qpj hblk hfit] at hcl;have hkz:(kk:Int)≤(d.size:Int):=by omega
       have FIN:Hid (∀(i j:Nat) (x:α),(zaf ef d.toList)[i]? =some x→j<k→(setMany F (kk*k) (Builtin.zeroCells z.cells (d.size-kk)).toList)[i*k+j]! =(enc x)[j]!):=fun i j x hx hj=>by
        have e2:d.toList.take (kp+1+k2)=d.toList:=List.take_of_length_le (by simp;omega);have hl:=HI.out.len;have hlo:=HI.out.low;rw [e2] at hl hlo;have hi:i<kk:=by have:=(List.getElem?_eq_some_iff.1 hx).1;omega
        have hik:i*k+j<kk*k:=qmp hi hj;rw [get_setMany _ _ _ _ (by rw [hFs];have:kk*k≤d.size*k:=Nat.mul_le_mul_right _ (by omega);omega),if_neg (by omega)];exact hlo i j x hx hj
       have LEN:Hid (kk=(zaf ef d.toList).length):=by
        have hl:=HI.out.len
        rwa [List.take_of_length_le (by simp;omega)] at hl
       have SZ:Hid ((setMany F (kk*k) (Builtin.zeroCells z.cells (d.size-kk)).toList).size=d.size*k):=by show _=_;rw [size_setMany,hFs]
       generalize setMany F (kk*k) (Builtin.zeroCells z.cells (d.size-kk)).toList=F' at hcl FIN SZ;clear hst hfit hzo hzl hFs;go_wp2;go_ret;exact ⟨n2,F',os2,by rw [←LEN.out];rfl,SZ.out,FIN.out,rfl⟩
    ·simp only [Bool.not_eq_true] at hef;rw [hef] at hcg';go_wp2_with fail;go_quiet_grown (first|(go_at_fn c;refine Calls.grown_of (hcg' _ _)));go_wp2_with fail;go_roundg (d.size-(kp+1+1))
     case measure=>omega
     case rel=>
      refine ⟨kp+1+1,n+nq,os++osq,by omega,by omega,Nat.le_refl _,by go_num,HG1.out _ _,fun j h1 h2=> ?_⟩;by_cases hj:j=kp+1
      ·subst hj;rw [show d[kp+1]! =x from hx,show d[kp+1-1]! =y from hy,hef]
      ·exact HA.out j h1 (by omega)
   ·have hend:kk=d.size:=by omega
    subst hend;go_wp2;go_ret;obtain ⟨n',F,os',h3,h4,h5,h6⟩:=WH.out n os HA.out;exact ⟨n',F,os',by rw [h3];rfl,h4,h5,h6⟩
theorem qnn {α β:Type} {den:α→β} {ef:β→β→Bool} (l:List α):(zaf (fun x y=>ef (den x) (den y)) l).map den=zaf ef (l.map den):=by
 have go:∀(l:List α) (p:α),(zcv (fun x y=>ef (den x) (den y)) p l).map den=zcv ef (den p) (l.map den):=by
  intro l
  induction l with
  |nil=>intro p;rfl
  |cons y r ih=>
   intro p;simp only [zcv,List.map_cons];cases ef (den y) (den p)
   ·simp only [cond_false,List.map_cons,ih]
   ·simp only [cond_true,ih]
 cases l with
 |nil=>rfl
 |cons x r=>simp only [zaf,List.map_cons,go]
structure ymi (P:Program) (T e B I FT U:TypeId):Prop where
 mixed:P.follows .mixedOrders=true
 t0:P.underlying U=some (TypeDesc.tuple #[])
 t3:P.underlying I=some (TypeDesc.int IntKind.i64)
 t4:P.underlying B=some TypeDesc.bool
 t22:P.underlying T=some (TypeDesc.slice e)
 t25:∃fas frs:Array TypeId,P.underlying FT=some (TypeDesc.func fas frs false)
 a0:∀w,(isAgg U).run P w= .ok false w
 a3:∀w,(isAgg I).run P w= .ok false w
 a4:∀w,(isAgg B).run P w= .ok false w
 a22:∀w,(isAgg T).run P w= .ok false w
 a25:∀w,(isAgg FT).run P w= .ok false w
 z3:∀w,(Go.sizeOf I).run P w= .ok 1 w
 z4:∀w,(Go.sizeOf B).run P w= .ok 1 w
 z22:∀w,(Go.sizeOf T).run P w= .ok 1 w
 z25:∀w,(Go.sizeOf FT).run P w= .ok 1 w
set_option maxHeartbeats 4000000 in
set_option maxRecDepth 1000000 in
theorem yxf {P:Program} {f T e B I FT U:Nat} (H:ymi P T e B I FT U) (L:Bears P f (cfFn T e B I FT U)) (a:Option Addr) (cap:Nat) (fv:Value) (w:World):
 Calls P f #[.slice a 0 cap,fv] w fun en w'=>en= .returned (.slice a 0 cap)∧w'=w:=by
 have mixed:=H.mixed;have t0:=H.t0;have t3:=H.t3;have t4:=H.t4;have t22:=H.t22;have a0:=H.a0;have a3:=H.a3;have a4:=H.a4;have a22:=H.a22;have a25:=H.a25;have z3:=H.z3;have z4:=H.z4;have z22:=H.z22;have z25:=H.z25;obtain ⟨fas,frs,t25⟩:=H.t25;obtain ⟨nm,_,FG⟩:=L;go_enter FG,qmb T e B I FT U;go_wp2;go_ret;exact ⟨rfl,rfl⟩
section
variable {P:Program} {E:Env}
theorem qcz {f T e B I FT U:Nat} (H:ymi P T e B I FT U) (L:Bears P f (cfFn T e B I FT U)) {u:Ty} (hp:u.zke=true) (aE:∀w,(isAgg e).run P w= .ok true w) (zE:∀w,(Go.sizeOf e).run P w= .ok u.sz w)
 (z:Value) (vE:∀w,(zeroValue e).run P w= .ok z w) (hz:z.cells.size=u.sz) (hz1:∀v∈z.cells.toList,v.oneCell'=true) (hcall:zbc P f):ztq P E f true e u:=by
 refine ⟨hcall,fun a cap fv w=>(yxf H L a cap fv w).mono fun en w' ⟨h1,h2⟩=>⟨by simpa using h1,h2⟩,fun h=>(by cases h),fun _ F w xs g l v c cvs ef hne hc hown hF hcmp=> ?_⟩;obtain ⟨hl,cap,cur,rfl,hh,hcap,hcm,hcs,hel⟩:=hown;have hblk:g<w.heap.size:=(Array.getElem?_eq_some_iff.1 hh).1;have hel':∀i:Fin xs.length,∃ds,Cl F w u xs[i] ds∧∀j z,ds[j]? =some z→cur[i.1*u.sz+j]? =some z:=fun i=>hel i xs[i] (List.getElem?_eq_getElem i.2)
 let α:={p:u.den×List Value // p.1∈xs∧Cl F w u p.1 p.2}
 let mk (i:Fin xs.length):α:=⟨(xs[i],(hel' i).choose),List.getElem_mem _,(hel' i).choose_spec.1⟩
 let d:Array α:=Array.ofFn mk
 have hpos:0<xs.length:=List.length_pos_iff.2 hne;haveI:Inhabited α:=⟨mk ⟨0,hpos⟩⟩
 let enc:α→List Value:=fun p=>p.1.2
 let den:α→u.den:=fun p=>p.1.1
 have hk:∀x:α,(enc x).length=u.sz:=fun x=>x.2.2.length
 have h1:∀x:α,∀v∈enc x,v.oneCell'=true:=fun x=>x.2.2.one
 have hds:d.size=xs.length:=by simp [d]
 have hdd:d.toList.map den=xs:=by
  apply List.ext_getElem
  ·simp [d]
  ·intro i hi1 hi2;simp [d,mk,den]
 have hH:HoldsK enc u.sz w g 0 d:=by
  intro j hj;rw [size_flatK,hds] at hj;have hsz:=Ty.zpw u;have hq:j/u.sz<xs.length:=Nat.div_lt_of_lt_mul (by rwa [Nat.mul_comm] at hj);have hr:j % u.sz<u.sz:=Nat.mod_lt _ hsz;have hspec:=(hel' ⟨j/u.sz,hq⟩).choose_spec;have hlen:=hspec.1.length;have hcell:=hspec.2 (j % u.sz) _ (List.getElem?_eq_getElem (by rw [hlen];exact hr));have hjj:j/u.sz*u.sz+j % u.sz=j:=by rw [Nat.mul_comm];exact Nat.div_add_mod j u.sz
  have hflat:(flatK enc u.sz d)[j]! =((hel' ⟨j/u.sz,hq⟩).choose)[j % u.sz]'(by rw [hlen];exact hr):=by rw [get_flatK enc u.sz d j (by rw [hds];exact hj),getElem!_pos d _ (by rw [hds];exact hq)];simp only [d,Array.getElem_ofFn,enc,mk];rw [getElem!_pos _ _ (by rw [hlen];exact hr)]
  refine ⟨?_,?_⟩
  ·simp only [World.cell?,hh,Nat.zero_add,id,hflat];simp only [hjj] at hcell
   simpa using hcell
  ·simp only [World.frozen?,hh];simp
 have hcmp':∀(n:Nat) (G:Array Value) (os:Array Obj),G.size=d.size*u.sz→∀x y:α,Calls P c (#[.agg (enc x).toArray,.agg (enc y).toArray]++cvs.toArray) (cw w g 0 n G os) fun e w'=>e= .returned (.bool (ef (den x) (den y)))∧∃q os',w'=grow ((cw w g 0 n G os).drewN q) os':=fun n G os hG x y=>by have S:Step F F w (cw w g 0 n G os):=qax (f:=putCells id 0 G) hF;have h:=hcmp _ x.1.1 y.1.1 x.1.2 y.1.2 x.2.1 y.2.1 S (qqa w g n (putCells id 0 G) os) (x.2.2.step S) (y.2.2.step S);unfold uval at h;rw [if_pos hp,if_pos hp] at h;exact h.mono fun en W' ⟨he,hk⟩=>⟨he,qjm hk⟩
 have hc2:∀args w,(callFunc c args).run P w= .ok (.enter c args) w:=fun args w=>by
  obtain ⟨fn,h1,h2,h3⟩:=hc;have h2':¬fn.name= "runtime.NumGoroutine" :=by simpa using h2
  have h3':¬fn.body=none:=by cases hb:fn.body<;>simp_all
  simp [callFunc,h1,h2',h3']
 obtain ⟨fas,frs,t25⟩:=H.t25;have hmain:=xij H.mixed L H.t0 H.t3 H.t4 H.t22 t25 H.a0 H.a3 H.a4 H.a22 H.a25 H.z3 H.z4 H.z22 H.z25 u.sz aE zE z vE hz hz1 enc hk h1 (fun x y=>ef (den x) (den y)) c cvs.toArray g 0 cap d w hc2 hcmp' hH hblk (by rw [hds];exact Nat.le_trans hcap hcm) (by rw [hds];exact hcap);rw [hds] at hmain;have hct:(zaf (fun x y=>ef (den x) (den y)) d.toList).map den=zaf ef xs:=by rw [qnn,hdd]
 have hcl:(zaf (fun x y=>ef (den x) (den y)) d.toList).length=(zaf ef xs).length:=by rw [←hct];simp
 rw [hcl] at hmain;refine hmain.mono fun en w' ⟨n,G,os,he,hGs,hrow,hw⟩=>⟨_,he,?_⟩
 subst hw;have hle:(zaf ef xs).length≤xs.length:=by
  cases xs with
  |nil=>exact Nat.le_refl _
  |cons x r=>simp only [zaf,List.length_cons];have:=zrc ef r x;omega
 refine ⟨qqb w g n (putCells id 0 G) os,rfl,cap,putCells id 0 G cur,rfl,qqc hh,by omega,hcm,by simp [putCells,hcs],fun i x hx=> ?_⟩;obtain ⟨y,hy,hyx⟩:∃y,(zaf (fun x y=>ef (den x) (den y)) d.toList)[i]? =some y∧den y=x:=by
  rw [←hct,List.getElem?_map] at hx
  simpa using hx
 have hi:i<(zaf ef xs).length:=(List.getElem?_eq_some_iff.1 hx).1;refine ⟨enc y,?_,fun j v hj=> ?_⟩
 ·have:=y.2.2.step (qax (m:=n) (f:=putCells id 0 G) (os:=os) hF);rw [←hyx];exact this
 ·have hjl:j<u.sz:=by have:=(List.getElem?_eq_some_iff.1 hj).1;rw [hk] at this;exact this
  have hlt:i*u.sz+j<xs.length*u.sz:=qmp (by omega) hjl;have hcl:xs.length*u.sz≤cur.size:=by rw [hcs];exact Nat.mul_le_mul_right _ hcap
  have hcur:i*u.sz+j<cur.size:=by omega
  have hg:=hrow i j y hy hjl;obtain ⟨h3,h4⟩:=List.getElem?_eq_some_iff.1 hj;rw [getElem!_pos (enc y) j h3,h4] at hg;simp only [putCells,Array.getElem?_mapIdx,Array.getElem?_eq_getElem hcur,Option.map_some,Nat.zero_add,Nat.sub_zero,id,hg];rw [if_pos ⟨Nat.zero_le _,by rw [hGs];exact hlt⟩]
end
theorem ynb {W:World} {blk off i a:Nat} {F:Array Value} {v:Value} (h:Holds id W blk off F) (hv:F[i]! =v) (hi:i<F.size) (ha:a=off+i):W.cell? ⟨blk,a,none⟩=some v:=by subst ha;rw [(h i hi).1,hv];rfl
set_option maxHeartbeats 4000000 in
set_option maxRecDepth 1000000 in
theorem xdc {P:Program} {α:Type} [Inhabited α] {f T e B I FT U:Nat} (mixed:P.follows .mixedOrders=true) (L:Bears P f (cfFn T e B I FT U))
 (t0:P.underlying U=some (TypeDesc.tuple #[])) (t3:P.underlying I=some (TypeDesc.int IntKind.i64)) (t4:P.underlying B=some TypeDesc.bool) (t22:P.underlying T=some (TypeDesc.slice e)) {fas frs:Array TypeId} (t25:P.underlying FT=some (TypeDesc.func fas frs false))
 (a0:∀w,(isAgg U).run P w= .ok false w) (a3:∀w,(isAgg I).run P w= .ok false w) (a4:∀w,(isAgg B).run P w= .ok false w) (a22:∀w,(isAgg T).run P w= .ok false w) (a25:∀w,(isAgg FT).run P w= .ok false w)
 (z3:∀w,(Go.sizeOf I).run P w= .ok 1 w) (z4:∀w,(Go.sizeOf B).run P w= .ok 1 w) (z22:∀w,(Go.sizeOf T).run P w= .ok 1 w) (z25:∀w,(Go.sizeOf FT).run P w= .ok 1 w)
 (aE:∀w,(isAgg e).run P w= .ok false w) (zE:∀w,(Go.sizeOf e).run P w= .ok 1 w) (z:Value) (vE:∀w,(zeroValue e).run P w= .ok z w) (hz:z.cells.size=1) (hz1:∀v∈z.cells.toList,v.oneCell'=true)
 (enc:α→Value) (h1:∀x,(enc x).oneCell'=true) (ef:α→α→Bool) (c:Nat) (cb:Array Value) (blk off cap:Nat) (d:Array α) (w:World)
 (ec:∀args w,(callFunc c args).run P w= .ok (.enter c args) w)
 (hcmp:∀(n:Nat) (F:Array Value) (os:Array Obj),F.size=d.size*1→∀x y:α,Calls P c (#[enc x,enc y]++cb) (cw w blk off n F os) fun e w'=>e= .returned (.bool (ef x y))∧∃q os',w'=grow ((cw w blk off n F os).drewN q) os')
 (hH:HoldsK (fun x=>[enc x]) 1 w blk off d) (hblk:blk<w.heap.size) (hsz:d.size≤9223372036854775807) (hcap:d.size≤cap):
 Calls P f #[.slice (some ⟨blk,off,none⟩) d.size cap,.func (.func c) #[] cb] w fun e w'=>
  ∃(n:Nat) (F:Array Value) (os:Array Obj),e= .returned (.slice (some ⟨blk,off,none⟩) (zaf ef d.toList).length cap)∧F.size=d.size*1∧
   (∀(i j:Nat) (x:α),(zaf ef d.toList)[i]? =some x→j<1→F[i*1+j]! =[enc x][j]!)∧w'=cw w blk off n F os:=by
 have HC:Aside _:=hcmp;have ZZ:Hid (z.cells.size=1∧(∀v∈z.cells.toList,v.oneCell'=true)∧∀w,(zeroValue e).run P w= .ok z w):=⟨hz,hz1,vE⟩;clear hz hz1 vE;have whole:∀n os,(∀j,1≤j→j<d.size→ef d[j]! d[j-1]! =false)→∃(n':Nat) (F:Array Value) (os':Array Obj),(zaf ef d.toList).length=d.size∧F.size=d.size*1∧(∀(i j:Nat) (x:α),(zaf ef d.toList)[i]? =some x→j<1→F[i*1+j]! =[enc x][j]!)∧grow (w.drewN n) os=cw w blk off n' F os':=fun n os hn=>by
  have e1:=zoj ef d.size (Nat.le_refl _) hn;have e2:d.toList.take d.size=d.toList:=List.take_of_length_le (by simp);rw [e2] at e1;refine ⟨n,flatK (fun x=>[enc x]) 1 d,os,by rw [e1];simp,size_flatK ..,fun i j x hx hj=> ?_,?_⟩
  ·rw [e1] at hx;obtain ⟨hi,hx⟩:=List.getElem?_eq_some_iff.1 hx;simp only [Array.length_toList,Array.getElem_toList] at hi hx;rw [get_flatK _ _ _ _ (qmp hi hj)];have h1:(i*1+j)/1=i:=by rw [Nat.add_comm,Nat.add_mul_div_right _ _ (by omega),Nat.div_eq_of_lt hj,Nat.zero_add]
   have h2:(i*1+j) % 1=j:=by rw [Nat.add_comm,Nat.add_mul_mod_self_right,Nat.mod_eq_of_lt hj]
   rw [h1,h2,getElem!_pos d i hi,hx]
  ·unfold cw
   congr 1
   exact (putRowK_self (fun x=>[enc x]) 1 (Go.Sort.ahead w n) blk off d (holdsK_ahead (fun x=>[enc x]) 1 w n blk off d hH)).symm
 have WH:Hid _:=whole;clear whole;have HH:Hid (HoldsK (fun x=>[enc x]) 1 w blk off d):=hH;have H1:Hid (∀x,(enc x).oneCell'=true):=h1;clear hcmp hH h1;obtain ⟨nm,_,FG⟩:=L;go_enter FG,qmb T e B I FT U;have hcells:∀n' os' i,i<d.size→(grow (w.drewN n') os').cell? ⟨blk,off+i,none⟩=some (enc d[i]!):=fun n' os' i hi=>by have h:=(holdsK_grow (fun x=>[enc x]) 1 _ os' blk off d hblk (holdsK_ahead (fun x=>[enc x]) 1 w n' blk off d HH.out)) i (by rw [size_flatK];omega);rw [get_flatK _ _ _ _ (by omega),Nat.div_one,Nat.mod_one] at h;exact h.1
 have LD:Hid _:=hcells;clear hcells;by_cases h2:d.size<2
 ·have h2z:(d.size:Int)<2:=by omega
  go_wp2;go_ret;obtain ⟨n',F,os',h3,h4,h5,h6⟩:=WH.out 0 #[] fun j h1 h2=>by omega
  exact ⟨n',F,os',by rw [h3];rfl,h4,h5,by rw [←h6,grow_empty];rfl⟩
 ·have h2z:¬(d.size:Int)<2:=by omega
  go_wp2;go_loopg [5] d.size (fun g s5 wr=>∃(kk n:Nat) (os:Array Obj),1≤kk∧kk≤d.size∧d.size-kk≤g∧s5= .int .i64 kk∧wr=grow (w.drewN n) os∧Hid (∀j,1≤j→j<kk→ef d[j]! d[j-1]! =false))
  case atStart=>exact ⟨1,0,#[],Nat.le_refl _,by omega,by omega,rfl,(grow_empty _).symm,fun j hj hj'=>by omega⟩
  case round=>
   obtain ⟨kk,n,os,hk1,hkd,hg,rfl,rfl,HA⟩:=hrel;by_cases hlt:kk<d.size
   ·obtain ⟨kp,rfl⟩:∃kp,kk=kp+1:=⟨kk-1,by omega⟩;have lx:=fun n' os'=>LD.out n' os' (kp+1) hlt
    have ly:=fun n' os'=>LD.out n' os' kp (by omega)
    have hg0:grow (w.drewN n) os=grow (w.drewN n) os:=rfl;obtain ⟨x,hx⟩:∃x,d[kp+1]! =x:=⟨_,rfl⟩;obtain ⟨y,hy⟩:∃y,d[kp]! =y:=⟨_,rfl⟩;rw [hx] at lx;rw [hy] at ly;have hcg:∀n' os',Calls P c (#[enc x,enc y]++cb) (grow (w.drewN n') os') fun e w'=>e= .returned (.bool (ef x y))∧∃q os'',w'=grow ((grow (w.drewN n') os').drewN q) os'':=fun n' os'=>by
     have h:=HC.out n' (flatK (fun x=>[enc x]) 1 d) os' (size_flatK ..) x y;have e:cw w blk off n' (flatK (fun x=>[enc x]) 1 d) os'=grow (w.drewN n') os':=by
      unfold cw
      congr 1
      exact putRowK_self (fun x=>[enc x]) 1 (Go.Sort.ahead w n') blk off d (holdsK_ahead (fun x=>[enc x]) 1 w n' blk off d HH.out)
     rwa [e] at h
    have lx':∀n' os',(grow ((grow (w.drewN n) os).drewN n') os').cell? ⟨blk,off+(kp+1),none⟩=some (enc x):=fun n' os'=>by
     have e:grow ((grow (w.drewN n) os).drewN n') os'=grow (w.drewN (n+n')) (os++os'):=by show grow (grow ((w.drewN n).drewN n') os) os'=_;rw [grow_grow,World.drewN_drewN]
     rw [e];exact lx _ _
    have ly':∀n' os',(grow ((grow (w.drewN n) os).drewN n') os').cell? ⟨blk,off+kp,none⟩=some (enc y):=fun n' os'=>by
     have e:grow ((grow (w.drewN n) os).drewN n') os'=grow (w.drewN (n+n')) (os++os'):=by show grow (grow ((w.drewN n).drewN n') os) os'=_;rw [grow_grow,World.drewN_drewN]
     rw [e];exact ly _ _
    have hcg':∀n' os',Calls P c (#[enc x,enc y]++cb) (grow ((grow (w.drewN n) os).drewN n') os') fun e w'=>e= .returned (.bool (ef x y))∧∃q os'',w'=grow ((grow ((grow (w.drewN n) os).drewN n') os').drewN q) os'':=fun n' os'=>by
     have e:grow ((grow (w.drewN n) os).drewN n') os'=grow (w.drewN (n+n')) (os++os'):=by show grow (grow ((w.drewN n).drewN n') os) os'=_;rw [grow_grow,World.drewN_drewN]
     rw [e];exact hcg _ _
    have hg1:∀n' os',grow ((grow (w.drewN n) os).drewN n') os'=grow (w.drewN (n+n')) (os++os'):=fun n' os'=>by show grow (grow ((w.drewN n).drewN n') os) os'=_;rw [grow_grow,World.drewN_drewN]
    have HG1:Hid _:=hg1;clear lx ly hcg hg1;have hlz:(kp:Int)+1<(d.size:Int):=by omega
    have hlz1:(kp:Int)<(d.size:Int):=by omega
    have p0:(0:Int)≤(kp:Int)+1:=by omega
    have e0:((kp:Int)+1).toNat=kp+1:=by omega
    have hwp:IntKind.i64.wrap (kp:Int)=(kp:Int):=by rw [IntKind.wrap_i64];omega
    generalize hwq:grow (w.drewN n) os=wq at lx' ly' hcg' HG1 ⊢;by_cases hef:ef x y=true
    ·rw [hef] at hcg';go_wp2_with fail;go_quiet_grown (first|(go_at_fn c;refine Calls.grown_of (hcg' _ _)));go_wp2_with fail;have hw2:grow (wq.drewN nq) osq=cw w blk off (n+nq) (flatK (fun x=>[enc x]) 1 d) (os++osq):=by
      rw [HG1.out];unfold cw
      congr 1
      exact (putRowK_self (fun x=>[enc x]) 1 (Go.Sort.ahead w (n+nq)) blk off d (holdsK_ahead (fun x=>[enc x]) 1 w (n+nq) blk off d HH.out)).symm
     have hstart:CInv ef (fun x=>[enc x]) 1 d (kp+1+1) (kp+1) (flatK (fun x=>[enc x]) 1 d):=by
      have e1:zaf ef (d.toList.take (kp+1))=d.toList.take (kp+1):=zoj ef (kp+1) (by omega) HA.out;have e2:zaf ef (d.toList.take (kp+1+1))=d.toList.take (kp+1):=by rw [zoi ef (by omega) hlt,show d[kp+1]! =x from hx,show d[kp+1-1]! =y from hy,hef,e1];simp
      have get:∀i j,i<d.size→j<1→(flatK (fun x=>[enc x]) 1 d)[i*1+j]! =[enc d[i]!][j]! :=fun i j hi hj=>by
       rw [get_flatK _ _ _ _ (qmp hi hj)];have h1:(i*1+j)/1=i:=by rw [Nat.add_comm,Nat.add_mul_div_right _ _ (by omega),Nat.div_eq_of_lt hj,Nat.zero_add]
       have h2:(i*1+j) % 1=j:=by rw [Nat.add_comm,Nat.add_mul_mod_self_right,Nat.mod_eq_of_lt hj]
       rw [h1,h2]
      refine ⟨size_flatK ..,by rw [e2,List.length_take,Array.length_toList,Nat.min_eq_left (by omega)],by omega,hlt,fun i j z hz hj=> ?_,fun i j _ hi hj=>get i j hi hj⟩;rw [e2,List.getElem?_take] at hz;split at hz
      ·rename_i hi;rw [get i j (by omega) hj];rw [List.getElem?_eq_getElem (by simp;omega)] at hz;simp only [Option.some.injEq,Array.getElem_toList] at hz;rw [getElem!_pos d i (by omega),hz]
      ·cases hz
     have HS:Hid _:=hstart;clear hstart lx' ly' hcg' HG1 hwq;rw [hw2];clear hw2;go_loopg [5,7] d.size (fun g s5 s7 wr=>∃(kk k2 n2:Nat) (F:Array Value) (os2:Array Obj),s5= .int .i64 kk∧s7= .int .i64 k2∧1≤k2∧kp+1+k2≤d.size∧d.size-(kp+1+k2)≤g∧wr=cw w blk off n2 F os2∧Hid (CInv ef (fun x=>[enc x]) 1 d (kp+1+k2) kk F))
     case atStart=>exact ⟨kp+1,1,n+nq,flatK (fun x=>[enc x]) 1 d,os++osq,by go_num,rfl,Nat.le_refl _,by omega,by omega,rfl,HS.out⟩
     case round=>
      obtain ⟨kk,k2,n2,F,os2,rfl,rfl,hk21,hk2d,hg2,rfl,HI⟩:=hrel;by_cases hlt2:kp+1+k2<d.size
      ·obtain ⟨k3,rfl⟩:∃k3,k2=k3+1:=⟨k2-1,by omega⟩;obtain ⟨u,hu⟩:∃u,d[kp+1+(k3+1)]! =u:=⟨_,rfl⟩;obtain ⟨v,hv⟩:∃v,d[kp+1+k3]! =v:=⟨_,rfl⟩;have hkk:kk<kp+1+(k3+1):=HI.out.lt;have hFs:F.size=d.size*1:=HI.out.size;have hholds:∀n' os',Holds id (grow ((cw w blk off n2 F os2).drewN n') os') blk off F:=fun n' os'=>by rw [qeb];exact cw_holds HH.out (by rw [hFs,size_flatK]) hblk _ _
       have bnd:∀i,i<d.size→i*1+1≤F.size:=fun i hi=>by rw [hFs];omega
       have lu:∀n' os',(grow ((cw w blk off n2 F os2).drewN n') os').cell? ⟨blk,off+(kp+1)+(k3+1),none⟩=some (enc u):=fun n' os'=>ynb (i:=kp+1+(k3+1)) (hholds n' os') (by have h:=HI.out.high (kp+1+(k3+1)) 0 (by omega) hlt2 (by omega);rw [hu] at h;simpa using h) (by have:=bnd _ hlt2;omega) (by omega)
       have lv:∀n' os',(grow ((cw w blk off n2 F os2).drewN n') os').cell? ⟨blk,off+(kp+1)+k3,none⟩=some (enc v):=fun n' os'=>ynb (i:=kp+1+k3) (hholds n' os') (by have h:=HI.out.high (kp+1+k3) 0 (by omega) (by omega) (by omega);rw [hv] at h;simpa using h) (by have:=bnd (kp+1+k3) (by omega);omega) (by omega)
       have hcg2:∀n' os',Calls P c (#[enc u,enc v]++cb) (grow ((cw w blk off n2 F os2).drewN n') os') fun e w'=>e= .returned (.bool (ef u v))∧∃q os'',w'=grow ((grow ((cw w blk off n2 F os2).drewN n') os').drewN q) os'':=fun n' os'=>by rw [qeb];exact HC.out _ F _ hFs u v
       have HB:Hid _:=bnd;have HF:Hid (F.size=d.size*1):=hFs;clear hholds bnd hFs;have CG:Hid (∀n' os',grow ((cw w blk off n2 F os2).drewN n') os'=cw w blk off (n2+n') F (os2++os')):=fun n' os'=>qeb ..
       have hl1:(k3:Int)+1<((d.size-(kp+1):Nat):Int):=by omega
       have hl2:(k3:Int)<((d.size-(kp+1):Nat):Int):=by omega
       have p1:(0:Int)≤(k3:Int)+1:=by omega
       have e1:((k3:Int)+1).toNat=k3+1:=by omega
       have hwp1:IntKind.i64.wrap (k3:Int)=(k3:Int):=by rw [IntKind.wrap_i64];omega
       generalize hwr:cw w blk off n2 F os2=wr at lu lv hcg2 CG ⊢;by_cases hef2:ef u v=true
       ·rw [hef2] at hcg2;go_wp2_with fail;go_quiet_grown (first|(go_at_fn c;refine Calls.grown_of (hcg2 _ _)));go_wp2_with fail;go_roundg (d.size-(kp+1+(k3+1+1)))
        case measure=>omega
        case rel=>exact ⟨kk,k3+1+1,n2+nq,F,os2++osq,rfl,by go_num,by omega,by omega,Nat.le_refl _,CG.out _ _,HI.out.drop (by omega) hlt2 (by rw [show d[kp+1+(k3+1)]! =u from hu,show d[kp+1+(k3+1)-1]! =v from hv,hef2])⟩
       ·simp only [Bool.not_eq_true] at hef2;rw [hef2] at hcg2;go_wp2_with fail;go_quiet_grown (first|(go_at_fn c;refine Calls.grown_of (hcg2 _ _)));have hw3:grow (wr.drewN nq) osq=cw w blk off (n2+nq) F (os2++osq):=CG.out nq osq;have lu3:=lu nq osq;have hH3:Holds id (grow (wr.drewN nq) osq) blk off F:=by rw [hw3];exact cw_holds HH.out (by rw [HF.out,size_flatK]) hblk _ _
        obtain ⟨old,hold⟩:∃old,F[kk]! =old:=⟨_,rfl⟩;have ck:(grow (wr.drewN nq) osq).cell? ⟨blk,off+kk,none⟩=some old:=by rw [←hold];exact (hH3 kk (by have:=HB.out kk (by omega);omega)).1
        have fk:(grow (wr.drewN nq) osq).frozen? ⟨blk,off+kk,none⟩=false:=(hH3 kk (by have:=HB.out kk (by omega);omega)).2;have OLD:Hid (F[kk]! =old):=hold;clear hold;have HW3:Hid ((grow (wr.drewN nq) osq).setCell ⟨blk,off+kk,none⟩ (enc u)=cw w blk off (n2+nq) (setMany F (kk*1) [enc u]) (os2++osq)):=by show _=_;have h:=qpj (w:=w) (blk:=blk) (off:=off) (n:=n2+nq) (s:=kk) (F:=F) (os:=os2++osq) hblk (vs:=[enc u]) (by have:=HB.out kk (by omega);simp only [List.length_singleton];omega);rw [hw3,Nat.mul_one,←h];rfl
        have hcu:(enc u).cells= #[enc u]:=zuy (H1.out u);simp only [Value.cells] at hcu;have hst3:=fun a m w=>run_store P w a (enc u) m (H1.out u)
        have hkz:(kk:Int)<(d.size:Int):=by omega
        clear lu lv hcg2 hH3 hw3;generalize grow (wr.drewN nq) osq=w3 at lu3 ck fk HW3 ⊢;go_wp2_with fail;go_roundg (d.size-(kp+1+(k3+1+1)))
        case measure=>omega
        case rel=>exact ⟨kk+1,k3+1+1,n2+nq,setMany F (kk*1) [enc u],os2++osq,by go_num,by go_num,by omega,by omega,Nat.le_refl _,HW3.out,CInv.keep (ef:=ef) (enc:=fun x=>[enc x]) (k:=1) (fun _=>rfl) HI.out (by omega) hlt2 (by rw [show d[kp+1+(k3+1)]! =u from hu,show d[kp+1+(k3+1)-1]! =v from hv,hef2]) |> fun h=>by rw [show d[kp+1+(k3+1)]! =u from hu] at h;exact h⟩
      ·have hend:kp+1+k2=d.size:=by omega
       have hkk:kk<d.size:=by have:=HI.out.lt;omega
       have hFs:F.size=d.size*1:=HI.out.size;have hn0:0<d.size-kk:=by omega
       have hzl:(Builtin.zeroCells z.cells (d.size-kk)).toList.length=(d.size-kk)*1:=by simp [Builtin.zeroCells,ZZ.out.1]
       have hzo:∀v∈(Builtin.zeroCells z.cells (d.size-kk)).toList,v.oneCell'=true:=fun v hv=>by
        simp only [Builtin.zeroCells,Array.toList_map,List.mem_map,Array.mem_toList_iff,Array.mem_range] at hv;obtain ⟨t,ht,rfl⟩:=hv;have hpos:0<z.cells.size:=by
         rcases Nat.eq_zero_or_pos z.cells.size with h0|h0
         ·rw [h0,Nat.mul_zero] at ht;omega
         ·exact h0
        have hm:=Nat.mod_lt t hpos;refine ZZ.out.2.1 _ ?_;simp [Array.getD_eq_getD_getElem?,hm]
       have hfit:kk*1+(Builtin.zeroCells z.cells (d.size-kk)).toList.length≤F.size:=by rw [hzl,hFs,←Nat.add_mul];exact Nat.mul_le_mul_right _ (by omega)
       have hst:=stores_of_holds P (cw_holds HH.out (F:=F) (by rw [hFs,size_flatK]) hblk n2 os2) (kk*1) (Builtin.zeroCells z.cells (d.size-kk)).toList hfit hzo;rw [show off+kk*1=off+kk by omega] at hst;have hcl:∀ty,(Builtin.clear_ #[T] ty #[.slice (some ⟨blk,off+kk,none⟩) (d.size-kk) (cap-kk)]).run P (cw w blk off n2 F os2)= .ok (.tuple #[]) ((cw w blk off n2 F os2).setCells blk (off+kk) (Builtin.zeroCells z.cells (d.size-kk)).toList):=fun ty=>by obtain ⟨m,hm⟩:∃m,d.size-kk=m+1:=⟨d.size-kk-1,by omega⟩;rw [hm] at hst ⊢;simp [Builtin.clear_,run_underlying t22,ZZ.out.2.2,hst]
       have hcs:(cw w blk off n2 F os2).setCells blk (off+kk) (Builtin.zeroCells z.cells (d.size-kk)).toList=cw w blk off n2 (setMany F (kk*1) (Builtin.zeroCells z.cells (d.size-kk)).toList) os2:=by
        have h:=qpj (w:=w) (blk:=blk) (off:=off) (n:=n2) (os:=os2) hblk hfit
        rwa [show off+kk*1=off+kk by omega] at h
       rw [hcs] at hcl;clear hcs;have hkz:(kk:Int)≤(d.size:Int):=by omega
       have FIN:Hid (∀(i j:Nat) (x:α),(zaf ef d.toList)[i]? =some x→j<1→(setMany F (kk*1) (Builtin.zeroCells z.cells (d.size-kk)).toList)[i*1+j]! =[enc x][j]!):=fun i j x hx hj=>by
        have e2:d.toList.take (kp+1+k2)=d.toList:=List.take_of_length_le (by simp;omega);have hl:=HI.out.len;have hlo:=HI.out.low;rw [e2] at hl hlo;have hi:i<kk:=by have:=(List.getElem?_eq_some_iff.1 hx).1;omega
        have hik:i*1+j<kk*1:=qmp hi hj;rw [get_setMany _ _ _ _ (by rw [hFs];have:kk*1≤d.size*1:=Nat.mul_le_mul_right _ (by omega);omega),if_neg (by omega)];exact hlo i j x hx hj
       have LEN:Hid (kk=(zaf ef d.toList).length):=by
        have hl:=HI.out.len
        rwa [List.take_of_length_le (by simp;omega)] at hl
       have SZ:Hid ((setMany F (kk*1) (Builtin.zeroCells z.cells (d.size-kk)).toList).size=d.size*1):=by show _=_;rw [size_setMany,hFs]
       generalize setMany F (kk*1) (Builtin.zeroCells z.cells (d.size-kk)).toList=F' at hcl FIN SZ;clear hst hfit hzo hzl hFs;go_wp2;go_ret;exact ⟨n2,F',os2,by rw [←LEN.out];rfl,SZ.out,FIN.out,rfl⟩
    ·simp only [Bool.not_eq_true] at hef;rw [hef] at hcg';go_wp2_with fail;go_quiet_grown (first|(go_at_fn c;refine Calls.grown_of (hcg' _ _)));go_wp2_with fail;go_roundg (d.size-(kp+1+1))
     case measure=>omega
     case rel=>
      refine ⟨kp+1+1,n+nq,os++osq,by omega,by omega,Nat.le_refl _,by go_num,HG1.out _ _,fun j h1 h2=> ?_⟩;by_cases hj:j=kp+1
      ·subst hj;rw [show d[kp+1]! =x from hx,show d[kp+1-1]! =y from hy,hef]
      ·exact HA.out j h1 (by omega)
   ·have hend:kk=d.size:=by omega
    subst hend;go_wp2;go_ret;obtain ⟨n',F,os',h3,h4,h5,h6⟩:=WH.out n os HA.out;exact ⟨n',F,os',by rw [h3];rfl,h4,h5,h6⟩
section
variable {P:Program} {E:Env}
theorem qua {f T e B I FT U:Nat} (H:ymi P T e B I FT U) (L:Bears P f (cfFn T e B I FT U)) {u:Ty} (hp:u.zke=false) (aE:∀w,(isAgg e).run P w= .ok false w) (zE:∀w,(Go.sizeOf e).run P w= .ok 1 w)
 (z:Value) (vE:∀w,(zeroValue e).run P w= .ok z w) (hz:z.cells.size=1) (hz1:∀v∈z.cells.toList,v.oneCell'=true) (hcall:zbc P f):ztq P E f true e u:=by
 refine ⟨hcall,fun a cap fv w=>(yxf H L a cap fv w).mono fun en w' ⟨h1,h2⟩=>⟨by simpa using h1,h2⟩,fun h=>(by cases h),fun _ F w xs g l v c cvs ef hne hc hown hF hcmp=> ?_⟩;have hu1:u.sz=1:=by cases u with
  |pair a b=>cases hp
  |_=>rfl
 obtain ⟨hl,cap,cur,rfl,hh,hcap,hcm,hcs,hel⟩:=hown;have hblk:g<w.heap.size:=(Array.getElem?_eq_some_iff.1 hh).1;have hel':∀i:Fin xs.length,∃ds,Cl F w u xs[i] ds∧∀j z,ds[j]? =some z→cur[i.1*u.sz+j]? =some z:=fun i=>hel i xs[i] (List.getElem?_eq_getElem i.2)
 let α:={p:u.den×List Value // p.1∈xs∧Cl F w u p.1 p.2}
 let mk (i:Fin xs.length):α:=⟨(xs[i],(hel' i).choose),List.getElem_mem _,(hel' i).choose_spec.1⟩
 let d:Array α:=Array.ofFn mk
 have hpos:0<xs.length:=List.length_pos_iff.2 hne;haveI:Inhabited α:=⟨mk ⟨0,hpos⟩⟩
 let enc:α→Value:=fun p=>p.1.2.headD undef
 let den:α→u.den:=fun p=>p.1.1
 have hk:∀x:α,x.1.2=[enc x]:=fun x=>by
  have:=x.2.2.length;rw [hu1] at this
  match hx:x.1.2,this with
  |[v],_=>simp [enc,hx]
 have h1:∀x:α,(enc x).oneCell'=true:=fun x=>x.2.2.one _ (by rw [hk x];simp)
 have hds:d.size=xs.length:=by simp [d]
 have hdd:d.toList.map den=xs:=by
  apply List.ext_getElem
  ·simp [d]
  ·intro i hi1 hi2;simp [d,mk,den]
 have hH:HoldsK (fun x=>[enc x]) 1 w g 0 d:=by
  intro j hj;rw [size_flatK,hds,Nat.mul_one] at hj;have hrow:(flatK (fun x=>[enc x]) 1 d)[j]! =enc (mk ⟨j,hj⟩):=by rw [get_flatK _ _ _ _ (by rw [hds];omega),Nat.div_one,Nat.mod_one,getElem!_pos d _ (by rw [hds];exact hj)];simp only [d,Array.getElem_ofFn];rfl
  have hcell:cur[j]? =some (enc (mk ⟨j,hj⟩)):=by
   have h:=(hel' ⟨j,hj⟩).choose_spec.2 0 (enc (mk ⟨j,hj⟩)) (by have h2:=hk (mk ⟨j,hj⟩);show (mk ⟨j,hj⟩).1.2[0]? =_;rw [h2];rfl);have e:(⟨j,hj⟩:Fin xs.length).1*u.sz+0=j:=by rw [hu1];simp
   rwa [e] at h
  refine ⟨?_,?_⟩
  ·simp only [World.cell?,hh,Nat.zero_add,id,hrow]
   simpa using hcell
  ·simp only [World.frozen?,hh];simp
 have hcmp':∀(n:Nat) (G:Array Value) (os:Array Obj),G.size=d.size*1→∀x y:α,Calls P c (#[enc x,enc y]++cvs.toArray) (cw w g 0 n G os) fun e w'=>e= .returned (.bool (ef (den x) (den y)))∧∃q os',w'=grow ((cw w g 0 n G os).drewN q) os':=fun n G os hG x y=>by have S:Step F F w (cw w g 0 n G os):=qax (f:=putCells id 0 G) hF;have h:=hcmp _ x.1.1 y.1.1 x.1.2 y.1.2 x.2.1 y.2.1 S (qqa w g n (putCells id 0 G) os) (x.2.2.step S) (y.2.2.step S);unfold uval at h;rw [if_neg (by rw [hp];exact Bool.false_ne_true),if_neg (by rw [hp];exact Bool.false_ne_true)] at h;exact h.mono fun en W' ⟨he,hk⟩=>⟨he,qjm hk⟩
 have hc2:∀args w,(callFunc c args).run P w= .ok (.enter c args) w:=fun args w=>by
  obtain ⟨fn,h1,h2,h3⟩:=hc;have h2':¬fn.name= "runtime.NumGoroutine" :=by simpa using h2
  have h3':¬fn.body=none:=by cases hb:fn.body<;>simp_all
  simp [callFunc,h1,h2',h3']
 obtain ⟨fas,frs,t25⟩:=H.t25;have hmain:=xdc H.mixed L H.t0 H.t3 H.t4 H.t22 t25 H.a0 H.a3 H.a4 H.a22 H.a25 H.z3 H.z4 H.z22 H.z25 aE zE z vE hz hz1 enc h1 (fun x y=>ef (den x) (den y)) c cvs.toArray g 0 cap d w hc2 hcmp' hH hblk (by rw [hds];exact Nat.le_trans hcap hcm) (by rw [hds];exact hcap);rw [hds] at hmain;have hct:(zaf (fun x y=>ef (den x) (den y)) d.toList).map den=zaf ef xs:=by rw [qnn,hdd]
 have hcl:(zaf (fun x y=>ef (den x) (den y)) d.toList).length=(zaf ef xs).length:=by rw [←hct];simp
 rw [hcl] at hmain;refine hmain.mono fun en w' ⟨n,G,os,he,hGs,hrow,hw⟩=>⟨_,he,?_⟩
 subst hw;have hle:(zaf ef xs).length≤xs.length:=by
  cases xs with
  |nil=>exact Nat.le_refl _
  |cons x r=>simp only [zaf,List.length_cons];have:=zrc ef r x;omega
 refine ⟨qqb w g n (putCells id 0 G) os,rfl,cap,putCells id 0 G cur,rfl,qqc hh,by omega,hcm,by simp [putCells,hcs],fun i x hx=> ?_⟩;obtain ⟨y,hy,hyx⟩:∃y,(zaf (fun x y=>ef (den x) (den y)) d.toList)[i]? =some y∧den y=x:=by
  rw [←hct,List.getElem?_map] at hx
  simpa using hx
 have hi:i<(zaf ef xs).length:=(List.getElem?_eq_some_iff.1 hx).1;refine ⟨[enc y],?_,fun j v hj=> ?_⟩
 ·have:=y.2.2.step (qax (m:=n) (f:=putCells id 0 G) (os:=os) hF);rw [hk y] at this;rw [←hyx];exact this
 ·have hjl:j=0:=by have:=(List.getElem?_eq_some_iff.1 hj).1;simp at this;exact this
  subst hjl;have hcl:xs.length≤cur.size:=by rw [hcs,hu1,Nat.mul_one];exact hcap
  have hcur:i<cur.size:=by omega
  have hg:=hrow i 0 y hy (by omega);simp only [List.getElem?_cons_zero,Option.some.injEq] at hj;rw [Nat.mul_one,Nat.add_zero] at hg;have hg':G[i]! =v:=by rw [hg,←hj];rfl
  rw [hu1,Nat.mul_one,Nat.add_zero];simp only [putCells,Array.getElem?_mapIdx,Array.getElem?_eq_getElem hcur,Option.map_some,Nat.zero_add,Nat.sub_zero,id,hg'];rw [if_pos ⟨Nat.zero_le _,by rw [hGs];omega⟩]
end
end Go.Sv
