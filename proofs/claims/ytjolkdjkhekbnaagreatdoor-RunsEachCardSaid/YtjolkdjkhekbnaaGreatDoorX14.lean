/- move.ways, move.Text: their contracts, by hand. -/
import Derived.Test.YtjolkdjkhekbnaaGreatDoorSvTop
import Derived.Test.YtjolkdjkhekbnaaGreatDoorSvK
import Derived.Test.YtjolkdjkhekbnaaGreatDoorL10
import Derived.WalkKit
import Derived.Carry
namespace Go.Proofs.YtjolkdjkhekbnaaGreatDoor.Sv
open Go Go.Sv Go.Proofs Go.Rd Go.RowKit Go.Shelf
set_option maxRecDepth 100000
attribute [local go_sem] Oper.semAt_some
def setO (w:World) (b:Nat) (o:Obj):World:={w with heap:=w.heap.setIfInBounds b o}
theorem ydj [Dfr] (w:World) (b:Nat) (o:Obj):(setO w b o).heap.size=w.heap.size:=by simp [setO]
theorem zui [Dfr] {P:Program} {t kt et:TypeId} {b clock:Nat} {es:Array MapEntry} {n:Int} (v:Value) {w:World} (hu:P.underlying t=some (.map kt et)) (hk:P.underlying kt=some (.int .i64)) (hb:w.heap[b]? =some (.map es clock))
 (hf:Instr.findNow (.int .i64) (.int .i64 n) es.toList 0=some none):(Instr.mapUpdate t (.map (some b)) (.int .i64 n) v).run P w= .ok () (setO w b (.map (es.push ⟨.int .i64 n,v,clock⟩) (clock+1))):=by
 have hck:(Instr.checkKey false 10000 kt (.int .i64 n)).run P w= .ok () w:=by
  rw [show (10000:Nat)=9999+1 from rfl]
  unfold Instr.checkKey
  simp [run_underlying hk]
 have hgo:(getObj b).run P w= .ok (.map es clock) w:=by simp [getObj,Sem.run,hb]
 unfold Instr.mapUpdate
 simp [run_underlying hu,run_underlying hk,hgo,hck,Instr.findKey,hf,Go.setObj,Sem.run,hb,setO]
theorem ywn [Dfr] (w:World) (A M S:Obj):(((w.alloc A).alloc M).alloc S).heap[w.heap.size+1]? =some M:=by
 show (((w.heap.push A).push M).push S)[w.heap.size+1]? =some M
 rw [Array.getElem?_push,if_neg (by simp),Array.getElem?_push,if_pos (by simp)]
theorem ywm [Dfr] (w:World) (A M S M1 S2:Obj):((setO (((w.alloc A).alloc M).alloc S) (w.heap.size+1) M1).alloc S2).heap[w.heap.size+1]? =some M1:=by
 show (((((w.heap.push A).push M).push S).setIfInBounds (w.heap.size+1) M1).push S2)[w.heap.size+1]? =some M1
 rw [Array.getElem?_push,if_neg (by simp),Array.getElem?_setIfInBounds,if_pos rfl,if_pos (by simp)]
theorem yuw [Dfr] (w:World) (b:Nat) (o:Obj) (h:b<w.heap.size):(setO w b o).heap[b]? =some o:=by simp [setO,Array.getElem?_setIfInBounds,h]
def endW (w:World) (A M S1 M1 S2 M2 M3 M4:Obj):World:=setO (setO (setO ((setO (((w.alloc A).alloc M).alloc S1) (w.heap.size+1) M1).alloc S2) (w.heap.size+1) M2) (w.heap.size+1) M3) (w.heap.size+1) M4
abbrev give (w:World):Obj:=.cells #[.int .i64 4,.func (.func 99) #[] #[],.int .i64 5,.func (.func 100) #[] #[]] 95
abbrev one1:Obj:=.cells #[.int .i64 1,.func (.func 99) #[] #[]] 95
abbrev two6:Obj:=.cells #[.int .i64 2,.func (.func 99) #[] #[],.int .i64 3,.func (.func 99) #[] #[]] 95
abbrev en1 (w:World):MapEntry:=⟨.int .i64 1,.slice (some ⟨w.heap.size+1+1,0,none⟩) 1 1,0⟩
abbrev en6 (w:World):MapEntry:=⟨.int .i64 6,.slice (some ⟨w.heap.size+1+1+1,0,none⟩) 2 2,1⟩
abbrev en4 (w:World):MapEntry:=⟨.int .i64 4,.slice (some ⟨w.heap.size,0,none⟩) 2 2,2⟩
abbrev en10 (w:World):MapEntry:=⟨.int .i64 10,.slice (some ⟨w.heap.size,0,none⟩) 2 2,3⟩
set_option maxHeartbeats 3200000 in
theorem yce [Dfr] (w:World):Calls Tryz.prog 59 #[] w fun e w'=>e= .returned (.map (some (w.heap.size+1)))∧
 w'=endW w (give w) (.map #[] 0) one1 (.map #[en1 w] 1) two6 (.map #[en1 w,en6 w] 2) (.map #[en1 w,en6 w,en4 w] 3) (.map #[en1 w,en6 w,en4 w,en10 w] 4):=by
 have hmm:= @run_makeMap Tryz.prog
 have hsz:=ydj
 go_enter Tryz.func59,Tryz.ntmps59
 go_wp2
 rw [zui (es:= #[]) (clock:=0) _ Tryz.underlying89 Tryz.underlying3 (ywn w _ _ _) rfl]
 go_wp2
 rw [zui (clock:=1) _ Tryz.underlying89 Tryz.underlying3 (ywm w _ _ _ _ _) rfl]
 go_wp2
 rw [zui (clock:=2) _ Tryz.underlying89 Tryz.underlying3 (yuw _ _ _ (by simp [-World.alloc_eq,setO,World.alloc])) rfl]
 go_wp2
 rw [zui (clock:=3) _ Tryz.underlying89 Tryz.underlying3 (yuw _ _ _ (by simp [-World.alloc_eq,setO,World.alloc])) rfl]
 go_wp2
 go_ret
 exact ⟨rfl,rfl⟩
theorem zhz [Dfr] {α:Type} (H:Array α) (x v:α) {i:Nat} (h:i<H.size):(H.push x).setIfInBounds i v=(H.setIfInBounds i v).push x:=by
 refine Array.ext_getElem? fun j=> ?_
 simp only [Array.getElem?_setIfInBounds,Array.getElem?_push,Array.size_push,Array.size_setIfInBounds]
 repeat' split
 all_goals first|rfl|omega
theorem zre [Dfr] {α:Type} (H:Array α) (x v:α) {i:Nat} (h:i=H.size):(H.push x).setIfInBounds i v=H.push v:=by
 refine Array.ext_getElem? fun j=> ?_
 simp only [Array.getElem?_setIfInBounds,Array.getElem?_push,Array.size_push]
 repeat' split
 all_goals first|rfl|omega
theorem ydl [Dfr] (w:World) (b:Nat) (o:Obj):(setO w b o).heap=w.heap.setIfInBounds b o:=rfl
theorem ybj [Dfr] (w:World) (o:Obj):(w.alloc o).heap=w.heap.push o:=rfl
theorem ydk [Dfr] (w:World) (b:Nat) (o:Obj):(setO w b o).os=w.os∧(setO w b o).tape=w.tape∧(setO w b o).output=w.output∧(setO w b o).drawn=w.drawn:=⟨rfl,rfl,rfl,rfl⟩
theorem ybi [Dfr] (w:World) (o:Obj):(w.alloc o).os=w.os∧(w.alloc o).tape=w.tape∧(w.alloc o).output=w.output∧(w.alloc o).drawn=w.drawn:=⟨rfl,rfl,rfl,rfl⟩
theorem ygv [Dfr] (w:World) (A M S1 M1 S2 M2 M3 M4:Obj):(endW w A M S1 M1 S2 M2 M3 M4).os=w.os∧(endW w A M S1 M1 S2 M2 M3 M4).tape=w.tape∧(endW w A M S1 M1 S2 M2 M3 M4).output=w.output∧(endW w A M S1 M1 S2 M2 M3 M4).drawn=w.drawn:=by
 unfold endW
 simp only [ydk,ybi,and_self]
theorem ygw [Dfr] (w:World) (A M S1 M1 S2 M2 M3 M4:Obj):(endW w A M S1 M1 S2 M2 M3 M4).heap=(((w.heap.push A).push M4).push S1).push S2:=by
 unfold endW
 simp only [ydl,ybj]
 have e:w.heap.size+1=(w.heap.push A).size:=by simp
 have l1:∀M:Obj,w.heap.size+1<((w.heap.push A).push M).size:=fun M=>by simp
 have l2:∀M S:Obj,w.heap.size+1<(((w.heap.push A).push M).push S).size:=fun M S=>by simp
 rw [zhz _ _ _ (l1 _),zre _ _ _ e,zhz _ _ _ (l2 _ _),zhz _ _ _ (l1 _),zre _ _ _ e,zhz _ _ _ (l2 _ _),zhz _ _ _ (l1 _),zre _ _ _ e,zhz _ _ _ (l2 _ _),zhz _ _ _ (l1 _),zre _ _ _ e]
theorem four [Dfr] (H:Array Obj) (a b c d:Obj) {K:Array Obj} (hK:K=(((H.push a).push b).push c).push d) :
 K[H.size]? =some a∧K[H.size+1]? =some b∧K[H.size+1+1]? =some c∧K[H.size+1+1+1]? =some d∧(∀k,k<H.size→K[k]? =H[k]?)∧K.size=H.size+4:=by
 subst hK
 refine ⟨?_,?_,?_,?_,fun k hk=> ?_,by simp⟩
 ·rw [Array.getElem?_push,if_neg (by simp;omega),Array.getElem?_push,if_neg (by simp;omega),Array.getElem?_push,if_neg (by simp),Array.getElem?_push,if_pos rfl]
 ·rw [Array.getElem?_push,if_neg (by simp),Array.getElem?_push,if_neg (by simp),Array.getElem?_push,if_pos (by simp)]
 ·rw [Array.getElem?_push,if_neg (by simp),Array.getElem?_push,if_pos (by simp)]
 ·rw [Array.getElem?_push,if_pos (by simp)]
 ·rw [Array.getElem?_push,if_neg (by simp;omega),Array.getElem?_push,if_neg (by simp;omega),Array.getElem?_push,if_neg (by simp;omega),Array.getElem?_push,if_neg (by omega)]
theorem qwk [Dfr] {F:Nat→Prop} {w:World} {e tid b:Nat} {xs:List (Int×Nat)} {cur:Array Value} (hh:w.heap[b]? =some (.cells cur tid (0,0))) (hF:¬F b)
 (hc:∀i x,xs[i]? =some x→cur[i*2]? =some (.int .i64 x.1)∧cur[i*2+1]? =some (.func (.func x.2) #[] #[])):Cl F w (.slice e (.pair (.int .i64) .fn)) xs [.slice (some ⟨b,0,none⟩) xs.length xs.length]:=by
 rw [Cl]
 refine ⟨some ⟨b,0,none⟩,xs.length,rfl,Nat.le_refl _,.inr ⟨⟨b,0,none⟩,rfl,hF,fun i x hi=> ?_⟩⟩
 obtain ⟨h1,h2⟩:=hc i x hi
 refine ⟨[.int .i64 x.1,.func (.func x.2) #[] #[]],?_,fun j v hj=> ?_⟩
 ·rw [Cl]
  exact ⟨[_],[_],rfl,by rw [Cl],by rw [Cl]⟩
 ·rw [zfk,cell_of_block hh,Nat.zero_add]
  match j,hj with
  |0,hj=>cases hj;exact h1
  |1,hj=>cases hj;exact h2
theorem zxs [Dfr]:zbr Tryz.prog E 59 () tabW:=by
 intro w F0 G A vs hA
 obtain rfl:vs=[]:=by
  have h:=hA.rel
  cases h
  rfl
 refine (yce w).mono ?_
 rintro e w' ⟨rfl,rfl⟩
 generalize hW:endW w (give w) (.map #[] 0) one1 (.map #[en1 w] 1) two6 (.map #[en1 w,en6 w] 2) (.map #[en1 w,en6 w,en4 w] 3) (.map #[en1 w,en6 w,en4 w,en10 w] 4)=W
 have hheap:W.heap=(((w.heap.push (give w)).push (.map #[en1 w,en6 w,en4 w,en10 w] 4)).push one1).push two6:=by rw [←hW];exact ygw ..
 obtain ⟨b0,b1,b2,b3,bk,bs⟩:=four _ _ _ _ _ hheap
 obtain ⟨r1,r2,r3,r4⟩:=ygv w (give w) (.map #[] 0) one1 (.map #[en1 w] 1) two6 (.map #[en1 w,en6 w] 2) (.map #[en1 w,en6 w,en4 w] 3) (.map #[en1 w,en6 w,en4 w,en10 w] 4)
 rw [hW] at r1 r2 r3 r4
 have hk:Kept G w W:=⟨r1,r2,r3,by rw [bs];omega,fun k hk _=>bk k hk,by rw [r4];exact Nat.le_refl _⟩
 refine ⟨_,rfl,hk,fun d=>⟨⟨fun _=>none,fun _=>none⟩,?_,fun _=>rfl,fun n b l h=>(by cases h),fun n n' b l l' h=>(by cases h)⟩⟩
 have hF:∀b,w.heap.size≤b→¬(Fr.F ⟨fun _=>none,fun _=>none⟩ F0) b:=fun b hb h=>by
  rcases h with h|⟨d,h⟩|⟨n,l,h⟩
  ·have:=(hA.f0 b h).1;omega
  ·cases h
  ·cases h
 have g4:Cl (Fr.F ⟨fun _=>none,fun _=>none⟩ F0) W (.slice 95 (.pair (.int .i64) .fn)) [(4,zai),(5,zdc)] [.slice (some ⟨w.heap.size,0,none⟩) 2 2] :=
  qwk b0 (hF _ (Nat.le_refl _)) fun i x h=>by
   match i,h with
   |0,h=>cases h;exact ⟨rfl,rfl⟩
   |1,h=>cases h;exact ⟨rfl,rfl⟩
 have g1:Cl (Fr.F ⟨fun _=>none,fun _=>none⟩ F0) W (.slice 95 (.pair (.int .i64) .fn)) [(1,zai)] [.slice (some ⟨w.heap.size+1+1,0,none⟩) 1 1] :=
  qwk b2 (hF _ (by omega)) fun i x h=>by
   match i,h with
   |0,h=>cases h;exact ⟨rfl,rfl⟩
 have g6:Cl (Fr.F ⟨fun _=>none,fun _=>none⟩ F0) W (.slice 95 (.pair (.int .i64) .fn)) [(2,zai),(3,zai)] [.slice (some ⟨w.heap.size+1+1+1,0,none⟩) 2 2] :=
  qwk b3 (hF _ (by omega)) fun i x h=>by
   match i,h with
   |0,h=>cases h;exact ⟨rfl,rfl⟩
   |1,h=>cases h;exact ⟨rfl,rfl⟩
 exact .inr ⟨rfl,w.heap.size+1,_,4,rfl,hF _ (by omega),b1,.cons ⟨rfl,g1⟩ (.cons ⟨rfl,g6⟩ (.cons ⟨rfl,g4⟩ (.cons ⟨rfl,g4⟩ .nil)))⟩
end Go.Proofs.YtjolkdjkhekbnaaGreatDoor.Sv
