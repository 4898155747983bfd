/- The tables of the seat are those of the program: checked by the kernel. Written by a program (emit3.py). -/
import Derived.Test.YtjolkdjkhekbnaaGreatDoorSvE
import Derived.Test.YtjolkdjkhekbnaaGreatDoorSvT
import Derived.Test.YtjolkdjkhekbnaaGreatDoorSvS
import Derived.Test.YtjolkdjkhekbnaaGreatDoorEv8
set_option linter.unusedVariables false
set_option linter.unusedSimpArgs false
namespace Go.Proofs.YtjolkdjkhekbnaaGreatDoor.Sv
open Go Go.Sv Go.Proofs
set_option maxRecDepth 100000
set_option maxHeartbeats 4000000
class zfm [Dfr]:Prop where
 c_runs_All:zbc Tryz.prog 20∧∀x r,xkq x=some r→zdw Tryz.prog E 20 x r
 c_runs_Find:zbc Tryz.prog 24∧∀x r,xkp x=some r→zdw Tryz.prog E 24 x r
 c_move_ways:zbc Tryz.prog 59∧∀x r,xkm x=some r→zdw Tryz.prog E 59 x r
 c_step_Put:zbc Tryz.prog 72∧∀x r,xkl x=some r→zdw Tryz.prog E 72 x r
 c_plot_Over:zbc Tryz.prog 103∧∀x r,xfi x=some r→zdw Tryz.prog E 103 x r
 c_trace_Mix:zbc Tryz.prog 180∧∀x r,xfh x=some r→zdw Tryz.prog E 180 x r
theorem zit {d d':Dfr} {f:Nat} {x:Tup (sg f).args} {r:Tup (sg f).res} (h:zdw Tryz.prog (@E d) f x r):zdw Tryz.prog (@E d') f x r:=fun w F0 G A vs hA=>h w F0 G A vs ⟨hA.rel,hA.bx,hA.tgm,hA.tgi,hA.f0,hA.glob⟩
theorem rows [Dfr]:(tiT.list.all fun p=>rowIs Tryz.prog p.1 p.2)=true:=by kernel_rfl
theorem xks [Dfr]:(tiT.list.all fun p=> !p.2.eq||Nat.beq p.1 68||Nat.beq p.1 71)=true:=by kernel_rfl
theorem eq68 [Dfr]:(T68).flat=true∧∀(w:World) (op:BinOp) (x y:Operand) (a b:(T68).den),(eqGuard op 68 x y (.agg (zbg T68 a).toArray) (.agg (zbg T68 b).toArray)).run Tryz.prog w= .ok () w∧(Op.equalIn 10000 68 (.agg (zbg T68 a).toArray) (.agg (zbg T68 b).toArray)).run Tryz.prog w= .ok (eqD T68 a b) w:=xfj rfl (by kernel_rfl) (by kernel_rfl) (by kernel_rfl) (by kernel_rfl)
theorem eq71 [Dfr]:(T71).flat=true∧∀(w:World) (op:BinOp) (x y:Operand) (a b:(T71).den),(eqGuard op 71 x y (.agg (zbg T71 a).toArray) (.agg (zbg T71 b).toArray)).run Tryz.prog w= .ok () w∧(Op.equalIn 10000 71 (.agg (zbg T71 a).toArray) (.agg (zbg T71 b).toArray)).run Tryz.prog w= .ok (eqD T71 a b) w:=xfj rfl (by kernel_rfl) (by kernel_rfl) (by kernel_rfl) (by kernel_rfl)
theorem types [Dfr]:zgk Tryz.prog E:=⟨fun t i h=>by
 have hm:(t,i)∈tiT.list:=Tree.qju h;refine xao (List.all_eq_true.1 rows _ hm) fun he u hu=> ?_
 have h1:=List.all_eq_true.1 xks _ hm;simp only [he,Bool.not_true,Bool.false_or,Bool.or_eq_true] at h1;rcases h1 with h1|h1
 ·have h2:t=68:=Nat.eq_of_beq_eq_true h1;subst h2;cases h.symm.trans (show E.ti 68=some _ from rfl);cases hu;exact eq68
 ·have h2:t=71:=Nat.eq_of_beq_eq_true h1;subst h2;cases h.symm.trans (show E.ti 71=some _ from rfl);cases hu;exact eq71⟩
theorem ytp [Dfr]:ztq Tryz.prog E 80 false 33 T33:=qmk (ρ:=Tryz.qxd) Tryz.xjl rfl Tryz.isAgg33 Tryz.sizeOf33 ⟨Tryz.f80,Tryz.func80,by kernel_rfl,by kernel_rfl⟩
theorem yto [Dfr]:ztq Tryz.prog E 81 true 33 T33:=qcz (T:=43) (e:=33) (B:=4) (I:=3) (FT:=110) (U:=0) ⟨by kernel_rfl,Tryz.underlying0,Tryz.underlying3,Tryz.underlying4,Tryz.underlying43,⟨_,_,Tryz.underlying110⟩,Tryz.isAgg0,Tryz.isAgg3,Tryz.isAgg4,Tryz.isAgg43,Tryz.isAgg110,Tryz.sizeOf3,Tryz.sizeOf4,Tryz.sizeOf43,Tryz.sizeOf110⟩ ⟨Tryz.f81.name,by decide,Tryz.func81.trans (congrArg some (by kernel_rfl))⟩ rfl Tryz.isAgg33 Tryz.sizeOf33 _ Tryz.zeroValue33 rfl (by decide) ⟨Tryz.f81,Tryz.func81,by kernel_rfl,by kernel_rfl⟩
theorem ypp [Dfr]:ztq Tryz.prog E 227 false 26 ((.slice 9 .str)):=yep (ρ:=Tryz.qqr) Tryz.xgh rfl ⟨Tryz.f227,Tryz.func227,by kernel_rfl,by kernel_rfl⟩
theorem ypo [Dfr]:ztq Tryz.prog E 228 true 26 ((.slice 9 .str)):=qua (T:=184) (e:=26) (B:=4) (I:=3) (FT:=60) (U:=0) ⟨by kernel_rfl,Tryz.underlying0,Tryz.underlying3,Tryz.underlying4,Tryz.underlying184,⟨_,_,Tryz.underlying60⟩,Tryz.isAgg0,Tryz.isAgg3,Tryz.isAgg4,Tryz.isAgg184,Tryz.isAgg60,Tryz.sizeOf3,Tryz.sizeOf4,Tryz.sizeOf184,Tryz.sizeOf60⟩ ⟨Tryz.f228.name,by decide,Tryz.func228.trans (congrArg some (by kernel_rfl))⟩ rfl Tryz.isAgg26 Tryz.sizeOf26 _ Tryz.zeroValue26 rfl (by decide) ⟨Tryz.f228,Tryz.func228,by kernel_rfl,by kernel_rfl⟩
theorem ypn [Dfr]:ztq Tryz.prog E 233 false 139 T139:=qmk (ρ:=Tryz.qqq) Tryz.xgg rfl Tryz.isAgg139 Tryz.sizeOf139 ⟨Tryz.f233,Tryz.func233,by kernel_rfl,by kernel_rfl⟩
theorem ypm [Dfr]:ztq Tryz.prog E 234 true 139 T139:=qcz (T:=136) (e:=139) (B:=4) (I:=3) (FT:=230) (U:=0) ⟨by kernel_rfl,Tryz.underlying0,Tryz.underlying3,Tryz.underlying4,Tryz.underlying136,⟨_,_,Tryz.underlying230⟩,Tryz.isAgg0,Tryz.isAgg3,Tryz.isAgg4,Tryz.isAgg136,Tryz.isAgg230,Tryz.sizeOf3,Tryz.sizeOf4,Tryz.sizeOf136,Tryz.sizeOf230⟩ ⟨Tryz.f234.name,by decide,Tryz.func234.trans (congrArg some (by kernel_rfl))⟩ rfl Tryz.isAgg139 Tryz.sizeOf139 _ Tryz.zeroValue139 rfl (by decide) ⟨Tryz.f234,Tryz.func234,by kernel_rfl,by kernel_rfl⟩
theorem xjv [Dfr]:yij Tryz.prog E:=fun f b e u h=>by
 have h':xgp f=some (b,e,u):=h;unfold xgp at h';split at h'
 ·rename_i hf;subst hf;cases h';exact ytp
 split at h'
 ·rename_i hf;subst hf;cases h';exact yto
 split at h'
 ·rename_i hf;subst hf;cases h';exact ypp
 split at h'
 ·rename_i hf;subst hf;cases h';exact ypo
 split at h'
 ·rename_i hf;subst hf;cases h';exact ypn
 split at h'
 ·rename_i hf;subst hf;cases h';exact ypm
 cases h'
theorem ytw [Dfr]:yop Tryz.prog 220 3 (.int .i64):=yjs (ρ:=Tryz.qxm) Tryz.xjx ⟨Tryz.f220,Tryz.func220,by kernel_rfl,by kernel_rfl⟩
theorem xjw [Dfr]:yoo Tryz.prog E:=fun f e u h=>by
 have h':xgx f=some (e,u):=h;unfold xgx at h';split at h'
 ·rename_i hf;subst hf;cases h';exact ytw
 cases h'
theorem tab [Dfr]:qel Tryz.prog E:=⟨by kernel_rfl,types,yws fun t i h=>List.all_eq_true.1 rows _ (Tree.qju h),xjv,yup fun _ _ _ _ _ _=>rfl,xjw⟩
theorem dsts [Dfr]:(fnT.list.all fun p=> !(p.2.name== "runtime.NumGoroutine")&&(match p.2.body with|some c=>zla p.2.ntmps c|none=>true))=true:=by kernel_rfl
theorem tN0 {α:Type} {P:Nat×α→Prop}:∀p∈(Tree.leaf:Tree α).list,P p:=fun _ h=>by cases h
theorem tN2 {α:Type} {P:Nat×α→Prop} {k:Nat} {v:α} {l r:Tree α} (h:P (k,v)) (hl:∀p∈l.list,P p) (hr:∀p∈r.list,P p):∀p∈(Tree.node k v l r).list,P p:=fun p hp=>by
 rcases List.mem_cons.1 hp with rfl|hp
 ·exact h
 ·exact (List.mem_append.1 hp).elim (hl p) (hr p)
theorem tN1 {α:Type} {P:Nat×α→Prop} {k:Nat} {v:α} (h:P (k,v)):∀p∈(Tree.lf k v).list,P p:=tN2 h tN0 tN0
set_option maxRecDepth 100000 in
open Tryz in
theorem funcs [Dfr]:∀p∈fnT.list,Tryz.prog.funcs[p.1]? =some p.2:=(tN2 func122 (tN2 func62 (tN2 func31 (tN2 func16 (tN2 func9 (tN2 func6 (tN2 func4 (tN1 func3) (tN1 func5)) (tN2 func8 (tN1 func7) tN0)) (tN2 func13 (tN2 func11 (tN1 func10) (tN1 func12)) (tN2 func15 (tN1 func14) tN0))) (tN2 func25 (tN2 func21 (tN2 func18 (tN1 func17) (tN1 func19)) (tN2 func23 (tN1 func22) tN0)) (tN2 func28 (tN2 func27 (tN1 func26) tN0) (tN2 func30 (tN1 func29) tN0)))) (tN2 func47 (tN2 func38 (tN2 func35 (tN2 func33 (tN1 func32) (tN1 func34)) (tN2 func37 (tN1 func36) tN0)) (tN2 func43 (tN2 func41 (tN1 func40) (tN1 func42)) (tN2 func46 (tN1 func44) tN0))) (tN2 func55 (tN2 func52 (tN2 func50 (tN1 func48) (tN1 func51)) (tN2 func54 (tN1 func53) tN0)) (tN2 func58 (tN2 func57 (tN1 func56) tN0) (tN2 func61 (tN1 func60) tN0))))) (tN2 func95 (tN2 func77 (tN2 func69 (tN2 func66 (tN2 func64 (tN1 func63) (tN1 func65)) (tN2 func68 (tN1 func67) tN0)) (tN2 func74 (tN2 func71 (tN1 func70) (tN1 func73)) (tN2 func76 (tN1 func75) tN0))) (tN2 func89 (tN2 func86 (tN2 func82 (tN1 func78) (tN1 func85)) (tN2 func88 (tN1 func87) tN0)) (tN2 func92 (tN2 func91 (tN1 func90) tN0) (tN2 func94 (tN1 func93) tN0)))) (tN2 func109 (tN2 func102 (tN2 func99 (tN2 func97 (tN1 func96) (tN1 func98)) (tN2 func101 (tN1 func100) tN0)) (tN2 func106 (tN2 func105 (tN1 func104) tN0) (tN2 func108 (tN1 func107) tN0))) (tN2 func116 (tN2 func113 (tN2 func111 (tN1 func110) (tN1 func112)) (tN2 func115 (tN1 func114) tN0)) (tN2 func119 (tN2 func118 (tN1 func117) tN0) (tN2 func121 (tN1 func120) tN0)))))) (tN2 func181 (tN2 func152 (tN2 func136 (tN2 func129 (tN2 func126 (tN2 func124 (tN1 func123) (tN1 func125)) (tN2 func128 (tN1 func127) tN0)) (tN2 func133 (tN2 func131 (tN1 func130) (tN1 func132)) (tN2 func135 (tN1 func134) tN0))) (tN2 func146 (tN2 func143 (tN2 func138 (tN1 func137) (tN1 func142)) (tN2 func145 (tN1 func144) tN0)) (tN2 func149 (tN2 func148 (tN1 func147) tN0) (tN2 func151 (tN1 func150) tN0)))) (tN2 func166 (tN2 func159 (tN2 func156 (tN2 func154 (tN1 func153) (tN1 func155)) (tN2 func158 (tN1 func157) tN0)) (tN2 func163 (tN2 func161 (tN1 func160) (tN1 func162)) (tN2 func165 (tN1 func164) tN0))) (tN2 func174 (tN2 func171 (tN2 func169 (tN1 func167) (tN1 func170)) (tN2 func173 (tN1 func172) tN0)) (tN2 func177 (tN2 func176 (tN1 func175) tN0) (tN2 func179 (tN1 func178) tN0))))) (tN2 func219 (tN2 func195 (tN2 func188 (tN2 func185 (tN2 func183 (tN1 func182) (tN1 func184)) (tN2 func187 (tN1 func186) tN0)) (tN2 func192 (tN2 func190 (tN1 func189) (tN1 func191)) (tN2 func194 (tN1 func193) tN0))) (tN2 func213 (tN2 func210 (tN2 func208 (tN1 func207) (tN1 func209)) (tN2 func212 (tN1 func211) tN0)) (tN2 func216 (tN2 func215 (tN1 func214) tN0) (tN2 func218 (tN1 func217) tN0)))) (tN2 func239 (tN2 func231 (tN2 func225 (tN2 func222 (tN1 func221) (tN1 func224)) (tN2 func230 (tN1 func229) tN0)) (tN2 func236 (tN2 func235 (tN1 func232) tN0) (tN2 func238 (tN1 func237) tN0))) (tN2 func254 (tN2 func249 (tN2 func241 (tN1 func240) (tN1 func248)) (tN2 func251 (tN1 func250) tN0)) (tN2 func289 (tN2 func278 (tN1 func255) tN0) (tN2 func296 (tN1 func290) tN0)))))))
theorem fns [Dfr]:∀f fn,E.fn f=some fn→Tryz.prog.funcs[f]? =some fn∧(fn.name== "runtime.NumGoroutine")=false∧∀c,fn.body=some c→zla fn.ntmps c=true:=fun f fn h=>by have hm:(f,fn)∈fnT.list:=Tree.qju h;have h1:=List.all_eq_true.1 dsts _ hm;simp only [Bool.and_eq_true,Bool.not_eq_true'] at h1;exact ⟨funcs _ hm,h1.1,fun c hc=>by have h2:=h1.2;rw [hc] at h2;exact h2⟩
theorem ywl [Dfr]:zbc Tryz.prog 39∧∀x r,xko x=some r→zdw Tryz.prog E 39 x r:=by
 refine ⟨⟨Tryz.f39,Tryz.func39,by kernel_rfl,by kernel_rfl⟩,fun x r h=> ?_⟩;have h':(bif zai (List.length x) 32 then some x else none)=some r:=h;cases hr:zai (List.length x) 32 with
 |false=>rw [hr] at h';cases h'
 |true=>rw [hr] at h';cases h';exact zwg tab Tryz.func39 rfl rfl rfl rfl (show E.sig 39=_ from rfl) (show E.ti 22=some _ from rfl) rfl rfl (show E.ti 68=some _ from rfl) (by decide) rfl rfl HEq.rfl HEq.rfl hr rfl
theorem ywk [Dfr]:zbc Tryz.prog 45∧∀x r,xkn x=some r→zdw Tryz.prog E 45 x r:=by
 refine ⟨⟨Tryz.f45,Tryz.func45,by kernel_rfl,by kernel_rfl⟩,fun x r h=> ?_⟩;have h':(bif zai (List.length x) 16 then some x else none)=some r:=h;cases hr:zai (List.length x) 16 with
 |false=>rw [hr] at h';cases h'
 |true=>rw [hr] at h';cases h';exact zwg tab Tryz.func45 rfl rfl rfl rfl (show E.sig 45=_ from rfl) (show E.ti 26=some _ from rfl) rfl rfl (show E.ti 9=some _ from rfl) (by decide) rfl rfl HEq.rfl HEq.rfl hr rfl
theorem ywj [Dfr]:zbc Tryz.prog 79∧∀x r,xkk x=some r→zdw Tryz.prog E 79 x r:=by
 refine ⟨⟨Tryz.f79,Tryz.func79,by kernel_rfl,by kernel_rfl⟩,fun x r h=> ?_⟩;have h':(bif zai (List.length x) 32 then some x else none)=some r:=h;cases hr:zai (List.length x) 32 with
 |false=>rw [hr] at h';cases h'
 |true=>rw [hr] at h';cases h';exact zwg tab Tryz.func79 rfl rfl rfl rfl (show E.sig 79=_ from rfl) (show E.ti 43=some _ from rfl) rfl rfl (show E.ti 33=some _ from rfl) (by decide) rfl rfl HEq.rfl HEq.rfl hr rfl
theorem yqv [Dfr]:zbc Tryz.prog 277∧∀x r,xfg x=some r→zdw Tryz.prog E 277 x r:=
 ⟨⟨Tryz.f277,Tryz.func277,by kernel_rfl,by kernel_rfl⟩,fun x r h=>qzc (E:=E) (f:=277) rfl (fun s c w h1 h2 h3=>yov Tryz.xhu (by kernel_rfl) s c w h1 h2 (ascii_of_all h3)) x r x r HEq.rfl HEq.rfl h⟩
theorem xcm [Dfr] [zfm]:∀f g,E.foreign f=some g→zbc Tryz.prog f∧∀x r,g x=some r→zdw Tryz.prog E f x r:=fun f g h=>by
 have h':frT f=some g:=h;unfold frT at h';split at h'
 ·rename_i hf;subst hf;cases h';exact yqv
 split at h'
 ·rename_i hf;subst hf;cases h';exact zfm.c_trace_Mix
 split at h'
 ·rename_i hf;subst hf;cases h';exact zfm.c_plot_Over
 split at h'
 ·rename_i hf;subst hf;cases h';exact ywj
 split at h'
 ·rename_i hf;subst hf;cases h';exact zfm.c_step_Put
 split at h'
 ·rename_i hf;subst hf;cases h';exact zfm.c_move_ways
 split at h'
 ·rename_i hf;subst hf;cases h';exact ywk
 split at h'
 ·rename_i hf;subst hf;cases h';exact ywl
 split at h'
 ·rename_i hf;subst hf;cases h';exact zfm.c_runs_Find
 split at h'
 ·rename_i hf;subst hf;cases h';exact zfm.c_runs_All
 cases h'
theorem qwp [Dfr] [zfm]:xis Tryz.prog E:=⟨tab,fns,xcm⟩
end Go.Proofs.YtjolkdjkhekbnaaGreatDoor.Sv
