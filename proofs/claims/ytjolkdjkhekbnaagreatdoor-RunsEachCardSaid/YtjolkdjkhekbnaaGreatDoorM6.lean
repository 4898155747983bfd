/- Orders told by comparing functions; rows that rise, each element once: plain Lean, no program in sight. -/
import Derived.Test.YtjolkdjkhekbnaaGreatDoorM1
namespace Go.Rd
open Go Go.Sv
structure Ord3 {α:Type} (c:α→α→Ordering):Prop where
 eq:∀x y,c x y= .eq↔x=y
 sw:∀x y,c y x=(c x y).swap
 tr:∀x y z,c x y= .lt→c y z= .lt→c x z= .lt
namespace Ord3
variable {α:Type} {c:α→α→Ordering}
theorem rfl' (h:Ord3 c) (x:α):c x x= .eq:=(h.eq x x).2 rfl
theorem gt (h:Ord3 c) {x y:α}:c x y= .gt↔c y x= .lt:=by
 rw [h.sw x y];cases c x y<;>simp
theorem irr (h:Ord3 c) {x:α}:¬c x x= .lt:=by rw [h.rfl' x];simp
theorem asym (h:Ord3 c) {x y:α} (h1:c x y= .lt):¬c y x= .lt:=fun h2=>h.irr (h.tr _ _ _ h1 h2)
end Ord3
def cmpL {α:Type} (c:α→α→Ordering):List α→List α→Ordering
 |[],[]=>.eq
 |[],_::_=>.lt
 |_::_,[]=>.gt
 |x::xs,y::ys=>(c x y).then (cmpL c xs ys)
def cmpP {α β:Type} (c:α→α→Ordering) (d:β→β→Ordering) (x y:α×β):Ordering:=(c x.1 y.1).then (d x.2 y.2)
theorem ycn {a b:Ordering}:a.then b= .eq↔a= .eq∧b= .eq:=by cases a<;>simp [Ordering.then]
theorem ycm {a b:Ordering}:a.then b= .lt↔a= .lt∨(a= .eq∧b= .lt):=by cases a<;>simp [Ordering.then]
theorem qpx {a b:Ordering}:(a.then b).swap=a.swap.then b.swap:=by cases a<;>rfl
theorem Ord3.pair {α β:Type} {c:α→α→Ordering} {d:β→β→Ordering} (h:Ord3 c) (k:Ord3 d):Ord3 (cmpP c d):=by
 refine ⟨fun x y=> ?_,fun x y=> ?_,fun x y z h1 h2=> ?_⟩
 ·unfold cmpP
  rw [ycn,h.eq,k.eq]
  exact ⟨fun ⟨a,b⟩=>Prod.ext a b,fun e=>by rw [e];exact ⟨rfl,rfl⟩⟩
 ·unfold cmpP
  rw [qpx,h.sw,k.sw]
 ·unfold cmpP at *
  rw [ycm] at *
  rcases h1 with h1|⟨h1,h1'⟩<;>rcases h2 with h2|⟨h2,h2'⟩
  ·exact .inl (h.tr _ _ _ h1 h2)
  ·rw [h.eq] at h2;rw [←h2];exact .inl h1
  ·rw [h.eq] at h1;rw [h1];exact .inl h2
  ·rw [h.eq] at h1 h2;rw [h1,h2];exact .inr ⟨h.rfl' _,k.tr _ _ _ h1' h2'⟩
theorem cmpL_eq {α:Type} {c:α→α→Ordering} (h:Ord3 c):∀x y,cmpL c x y= .eq↔x=y
 |[],[]=>by simp [cmpL]
 |[],_::_=>by simp [cmpL]
 |_::_,[]=>by simp [cmpL]
 |x::xs,y::ys=>by rw [cmpL,ycn,h.eq,cmpL_eq h xs ys];simp
theorem yhj {α:Type} {c:α→α→Ordering} (h:Ord3 c):∀x y,cmpL c y x=(cmpL c x y).swap
 |[],[]=>rfl
 |[],_::_=>rfl
 |_::_,[]=>rfl
 |x::xs,y::ys=>by rw [cmpL,cmpL,qpx,h.sw x y,yhj h xs ys]
theorem yhi {α:Type} {c:α→α→Ordering} (h:Ord3 c):∀x y z,cmpL c x y= .lt→cmpL c y z= .lt→cmpL c x z= .lt
 |[],[],_,h1,_=>by simp [cmpL] at h1
 |[],_::_,[],_,h2=>by simp [cmpL] at h2
 |[],_::_,_::_,_,_=>rfl
 |_::_,[],_,h1,_=>by simp [cmpL] at h1
 |_::_,_::_,[],_,h2=>by simp [cmpL] at h2
 |x::xs,y::ys,z::zs,h1,h2=>by
  rw [cmpL,ycm] at *
  rcases h1 with h1|⟨h1,h1'⟩<;>rcases h2 with h2|⟨h2,h2'⟩
  ·exact .inl (h.tr _ _ _ h1 h2)
  ·rw [h.eq] at h2;rw [←h2];exact .inl h1
  ·rw [h.eq] at h1;rw [h1];exact .inl h2
  ·rw [h.eq] at h1 h2;rw [h1,h2];exact .inr ⟨h.rfl' _,yhi h _ _ _ h1' h2'⟩
theorem Ord3.list {α:Type} {c:α→α→Ordering} (h:Ord3 c):Ord3 (cmpL c):=⟨cmpL_eq h,yhj h,yhi h⟩
def cmpI (x y:Int):Ordering:=if x<y then .lt else if x=y then .eq else .gt
theorem ordI:Ord3 cmpI:=by
 refine ⟨fun x y=> ?_,fun x y=> ?_,fun x y z h1 h2=> ?_⟩
 ·unfold cmpI;by_cases h:x<y<;>by_cases h':x=y<;>simp [h,h']<;>omega
 ·unfold cmpI
  by_cases h:x<y
  ·rw [if_pos h,if_neg (by omega),if_neg (by omega)];rfl
  ·by_cases h':x=y
   ·rw [if_neg h,if_pos h',if_neg (by omega),if_pos h'.symm];rfl
   ·rw [if_neg h,if_neg h',if_pos (by omega)];rfl
 ·unfold cmpI at *
  have a:x<y:=by by_cases h:x<y;exact h;rw [if_neg h] at h1;split at h1<;>cases h1
  have b:y<z:=by by_cases h:y<z;exact h;rw [if_neg h] at h2;split at h2<;>cases h2
  rw [if_pos (by omega)]
theorem yta {x y:Int}:cmpI x y= .lt↔x<y:=by
 unfold cmpI;by_cases h:x<y<;>by_cases h':x=y<;>simp [h,h']
def cmpU (x y:UInt8):Ordering:=cmpI x.toNat y.toNat
theorem ordU:Ord3 cmpU:=⟨fun x y=>by
 unfold cmpU;rw [ordI.eq]
 exact ⟨fun h=>UInt8.toNat_inj.1 (by omega),fun h=>by rw [h]⟩,fun x y=>ordI.sw _ _,fun x y z=>ordI.tr _ _ _⟩
def cmpB (a b:ByteArray):Ordering:=cmpL cmpU a.toList b.toList
theorem ordB:Ord3 cmpB:=⟨fun x y=>by
 unfold cmpB;rw [ordU.list.eq]
 exact ⟨fun h=>toList_inj h,fun h=>by rw [h]⟩,fun x y=>ordU.list.sw _ _,fun x y z=>ordU.list.tr _ _ _⟩
theorem zzy:∀a b:List UInt8,Op.bytesLess a b=decide (cmpL cmpU a b= .lt)
 |[],[]=>by simp [Op.bytesLess,cmpL]
 |_::_,[]=>by simp [Op.bytesLess,cmpL]
 |[],_::_=>by simp [Op.bytesLess,cmpL]
 |x::xs,y::ys=>by
  rw [Op.bytesLess,zzy xs ys,cmpL]
  have e1:decide (x<y)=decide (cmpU x y= .lt):=by
   unfold cmpU;simp only [yta,UInt8.lt_iff_toNat_lt];congr 1;simp
  have e2:(x==y)=decide (cmpU x y= .eq):=by
   rw [Bool.eq_iff_iff,beq_iff_eq,decide_eq_true_iff,ordU.eq]
  rw [e1,e2]
  cases cmpU x y<;>simp [Ordering.then]
theorem yqv (a b:ByteArray):Op.bytesLess a.toList b.toList=decide (cmpB a b= .lt):=zzy _ _
abbrev cmpA:List ByteArray→List ByteArray→Ordering:=cmpL cmpB
theorem ordA:Ord3 cmpA:=ordB.list
abbrev cmpT:Tc→Tc→Ordering:=cmpP cmpA cmpI
theorem ordT:Ord3 cmpT:=ordA.pair ordI
abbrev cmpQ:Tc×Tc→Tc×Tc→Ordering:=cmpP cmpT cmpT
theorem ordQ:Ord3 cmpQ:=ordT.pair ordT
def ordN:Ordering→Int
 | .lt=> -1
 | .eq=>0
 | .gt=>1
theorem yfd {o:Ordering}:ordN o<0↔o= .lt:=by cases o<;>simp [ordN]
section
variable {α:Type} {c:α→α→Ordering}
def Srt (c:α→α→Ordering) (l:List α):Prop:=l.Pairwise fun x y=>c x y= .lt
theorem Srt.nil:Srt c []:=List.Pairwise.nil
theorem znw {x:α} {l:List α}:Srt c (x::l)↔(∀y∈l,c x y= .lt)∧Srt c l:=List.pairwise_cons
theorem qfb (h:Ord3 c):∀{l m:List α},Srt c l→Srt c m→(∀x,x∈l↔x∈m)→l=m
 |[],[],_,_,_=>rfl
 |[],y::m,_,_,hx=>by have:=(hx y).2 (List.mem_cons_self ..);cases this
 |x::l,[],_,_,hx=>by have:=(hx x).1 (List.mem_cons_self ..);cases this
 |x::l,y::m,hl,hm,hx=>by
  obtain ⟨hl1,hl2⟩:=znw.1 hl
  obtain ⟨hm1,hm2⟩:=znw.1 hm
  have e:x=y:=by
   rcases List.mem_cons.1 ((hx x).1 (List.mem_cons_self ..)) with e|h1
   ·exact e
   ·rcases List.mem_cons.1 ((hx y).2 (List.mem_cons_self ..)) with e|h2
    ·exact e.symm
    ·exact absurd (hl1 y h2) (h.asym (hm1 x h1))
  subst e
  rw [qfb h hl2 hm2 fun z=>⟨fun hz=> ?_,fun hz=> ?_⟩]
  ·rcases List.mem_cons.1 ((hx z).1 (List.mem_cons_of_mem _ hz)) with e|h1
   ·rw [e] at hz;exact absurd (hl1 x hz) h.irr
   ·exact h1
  ·rcases List.mem_cons.1 ((hx z).2 (List.mem_cons_of_mem _ hz)) with e|h1
   ·rw [e] at hz;exact absurd (hm1 x hz) h.irr
   ·exact h1
def ins (c:α→α→Ordering) (x:α):List α→List α
 |[]=>[x]
 |y::r=>match c x y with
  | .lt=>x::y::r
  | .eq=>y::r
  | .gt=>y::ins c x r
def canon (c:α→α→Ordering) (l:List α):List α:=l.foldr (ins c) []
theorem qvh (h:Ord3 c) {x z:α}:∀{l:List α},z∈ins c x l↔z=x∨z∈l
 |[]=>by simp [ins]
 |y::r=>by
  unfold ins
  split
  ·simp
  ·rename_i he
   rw [h.eq] at he
   subst he
   simp
  ·rw [List.mem_cons,qvh h,List.mem_cons]
   constructor
   ·rintro (h|h|h)<;>simp [h]
   ·rintro (h|h|h)<;>simp [h]
theorem ycw (h:Ord3 c) {x:α}:∀{l:List α},Srt c l→Srt c (ins c x l)
 |[],_=>znw.2 ⟨by simp,.nil⟩
 |y::r,hl=>by
  obtain ⟨h1,h2⟩:=znw.1 hl
  unfold ins
  split
  ·rename_i he
   exact znw.2 ⟨fun z hz=>by
    rcases List.mem_cons.1 hz with rfl|hz
    ·exact he
    ·exact h.tr _ _ _ he (h1 z hz),hl⟩
  ·exact hl
  ·rename_i he
   refine znw.2 ⟨fun z hz=> ?_,ycw h h2⟩
   rcases (qvh h).1 hz with rfl|hz
   ·exact h.gt.1 he
   ·exact h1 z hz
theorem zmq (h:Ord3 c):∀(l:List α),Srt c (canon c l)
 |[]=>.nil
 |x::l=>ycw h (zmq h l)
theorem zbn (h:Ord3 c) {z:α}:∀{l:List α},z∈canon c l↔z∈l
 |[]=>by simp [canon]
 |x::l=>by
  show z∈ins c x (canon c l)↔_
  rw [qvh h,zbn h,List.mem_cons]
theorem qic (h:Ord3 c) {l m:List α} (hm:Srt c m) (hx:∀x,x∈m↔x∈l):m=canon c l :=
 qfb h hm (zmq h l) fun x=>by rw [zbn h,hx]
theorem qth (h:Ord3 c) {l:List α} (hl:Srt c l):canon c l=l:=(qic h hl fun _=>Iff.rfl).symm
theorem zzb (x:α):∀(l:List α),(ins c x l).length≤l.length+1
 |[]=>by simp [ins]
 |y::r=>by
  unfold ins
  split
  ·simp
  ·simp
  ·have:=zzb x r;simp;omega
theorem zah:∀(l:List α),(canon c l).length≤l.length
 |[]=>Nat.le_refl _
 |x::l=>by
  have h1:=zzb (c:=c) x (canon c l)
  have h2:=zah l
  show (ins c x (canon c l)).length≤_
  simp only [List.length_cons];omega
theorem zzu (h:Ord3 c) {ef:α→α→Bool} (hef:∀x y,ef x y=decide (c x y= .eq)):∀(p:α) (l:List α),(∀y∈l,¬c y p= .lt)→l.Pairwise (fun x y=>¬c y x= .lt)→
 Srt c (zbh ef p l)∧(∀y∈zbh ef p l,c p y= .lt)∧(∀z,z=p∨z∈zbh ef p l↔z=p∨z∈l)
 |p,[],_,_=>⟨.nil,by simp [zbh],by simp [zbh]⟩
 |p,y::r,h1,h2=>by
  obtain ⟨h3,h4⟩:=List.pairwise_cons.1 h2
  obtain ⟨i1,i2,i3⟩:=zzu h hef y r h3 h4
  unfold zbh
  rw [hef]
  by_cases e:c y p= .eq
  ·rw [decide_eq_true e,cond_true]
   rw [h.eq] at e
   subst e
   exact ⟨i1,i2,fun z=>by rw [i3];simp⟩
  ·rw [decide_eq_false e,cond_false]
   have hlt:c p y= .lt:=by
    have h5:=h1 y (List.mem_cons_self ..)
    rw [←h.gt]
    cases hc:c y p with
    |lt=>exact absurd hc h5
    |eq=>exact absurd hc e
    |gt=>rfl
   refine ⟨znw.2 ⟨i2,i1⟩,fun z hz=> ?_,fun z=> ?_⟩
   ·rcases List.mem_cons.1 hz with rfl|hz
    ·exact hlt
    ·exact h.tr _ _ _ hlt (i2 z hz)
   ·simp only [List.mem_cons]
    constructor
    ·rintro (hz|hz|hz)
     ·exact .inl hz
     ·exact .inr (.inl hz)
     ·rcases (i3 z).1 (.inr hz) with hz|hz
      ·exact .inr (.inl hz)
      ·exact .inr (.inr hz)
    ·rintro (hz|hz|hz)
     ·exact .inl hz
     ·exact .inr (.inl hz)
     ·rcases (i3 z).2 (.inr hz) with hz|hz
      ·exact .inr (.inl hz)
      ·exact .inr (.inr hz)
theorem qkc (h:Ord3 c) {ef:α→α→Bool} (hef:∀x y,ef x y=decide (c x y= .eq)) {l m:List α} (hl:l.Pairwise (fun x y=>¬c y x= .lt)) (hm:∀x,x∈l↔x∈m):zac ef l=canon c m:=by
 cases l with
 |nil=>exact qic h .nil hm
 |cons x r =>
  obtain ⟨h3,h4⟩:=List.pairwise_cons.1 hl
  obtain ⟨i1,i2,i3⟩:=zzu h hef x r h3 h4
  refine qic h (znw.2 ⟨i2,i1⟩) fun z=> ?_
  show z∈x::zbh ef x r↔z∈m
  rw [List.mem_cons,i3,←List.mem_cons,hm]
end
theorem qdz:∀(u:Ty) (x:u.den),eqT u x x=true
 | .bool,x=>by simp [eqT]
 | .int _,x=>by simp [eqT]
 | .str,x=>by simp [eqT]
 | .fn,x=>Nat.beq_refl x
 | .slice _ t,xs=>by
   simp only [eqT,Nat.beq_refl,Bool.true_and,List.all_eq_true]
   intro p hp
   have:∀(l:List t.den),∀p∈l.zip l,p.1=p.2:=fun l=>by
    induction l with
    |nil=>simp
    |cons y l ih =>
     intro p hp
     rcases List.mem_cons.1 hp with rfl|hp
     ·rfl
     ·exact ih p hp
   have e:=this xs p hp
   rw [←e]
   exact qdz t p.1
 | .pair a b,x=>by simp only [eqT,qdz a,qdz b,Bool.and_self]
theorem yaf {u:Ty} {c:u.den→u.den→Ordering} (h:Ord3 c) (xs:List u.den):qru u (fun x y=>some (ordN (c x y))) xs=true:=by
 have hl:∀x y,ltO (fun x y=>some (ordN (c x y))) x y=decide (c x y= .lt):=fun x y=>by
  unfold ltO
  exact decide_eq_decide.2 yfd
 unfold qru
 rw [List.all_eq_true]
 intro x hx
 rw [hl,decide_eq_false h.irr,Bool.not_false,Bool.true_and,List.all_eq_true]
 intro y hy
 rw [Option.isSome_some,Bool.true_and,hl,hl,Bool.and_eq_true]
 refine ⟨?_,?_⟩
 ·cases hc:c x y with
  |lt=>simp
  |eq=>rw [h.eq] at hc;subst hc;simp [qdz]
  |gt=>rw [h.gt] at hc;simp [hc]
 ·rw [List.all_eq_true]
  intro z hz
  rw [hl,hl,Bool.and_eq_true]
  constructor
  ·by_cases h1:c x y= .lt
   ·by_cases h2:c y z= .lt
    ·simp [h1,h2,h.tr _ _ _ h1 h2]
    ·simp [h2]
   ·simp [h1]
  ·by_cases h3:c x z= .lt
   ·cases h1:c x y with
    |lt=>simp
    |eq=>rw [h.eq] at h1;subst h1;simp [h3]
    |gt=>rw [h.gt] at h1;simp [h.tr _ _ _ h1 h3]
   ·simp [h3]
theorem qbs {u:Ty} {c:u.den→u.den→Ordering} (h:Ord3 c) {cf:u.den→u.den→Option Int} {eq:u.den→u.den→Option Bool} {xs:List u.den} (hlen:xs.length≤4611686018427387903)
 (hcf:∀x∈xs,∀y∈xs,cf x y=some (ordN (c x y))) (heq:∀x∈xs,∀y∈xs,eq x y=some (decide (c x y= .eq))):(ziy u cf xs).bind (zbu eq)=some (canon c xs):=by
 rw [zsq hcf]
 unfold ziy
 rw [decide_eq_true hlen,yaf h,Bool.and_self,cond_true,Option.bind_some]
 have hmem:∀x,x∈xs.mergeSort (fun x y=> !ltO (fun x y=>some (ordN (c x y))) y x)↔x∈xs:=fun x=>List.mem_mergeSort
 rw [ztz (eq':=fun x y=>some (decide (c x y= .eq))) fun x hx y hy=>heq x ((hmem x).1 hx) y ((hmem y).1 hy)]
 unfold zbu
 have hall:∀l:List u.den,(l.all fun x=>l.all fun y=>((some (decide (c x y= .eq)):Option Bool)).isSome)=true:=fun l=>by
  rw [List.all_eq_true];intro x _;rw [List.all_eq_true];intro y _;rfl
 rw [hall,cond_true]
 show some (zac (fun x y=>decide (c x y= .eq)) _)=_
 rw [qkc (m:=xs) h (fun x y=>rfl) ?_ hmem]
 have hle:∀x y,(!ltO (fun x y=>some (ordN (c x y))) y x)=true↔¬c y x= .lt:=fun x y=>by
  unfold ltO
  simp [yfd]
 refine List.Pairwise.imp (fun {a b} h1=>(hle a b).1 h1) (List.pairwise_mergeSort (fun a b d h1 h2=> ?_) (fun a b=> ?_) xs)
 ·rw [hle] at *
  intro h3
  cases hab:c b a with
  |lt=>exact h1 hab
  |eq=>rw [h.eq] at hab;rw [hab] at h2;exact h2 h3
  |gt=>rw [h.gt] at hab;exact h2 (h.tr _ _ _ h3 hab)
 ·rw [Bool.or_eq_true,hle,hle]
  by_cases h3:c b a= .lt
  ·exact .inr (h.asym h3)
  ·exact .inl h3
end Go.Rd
