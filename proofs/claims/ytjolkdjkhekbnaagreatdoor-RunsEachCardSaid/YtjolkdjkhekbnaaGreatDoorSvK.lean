/- The tables of the seat are those of the program: checked by the kernel. Written by a program (emit3.py). -/
import Derived.Test.YtjolkdjkhekbnaaGreatDoorSvE
import Derived.Test.YtjolkdjkhekbnaaGreatDoorSvT
import Derived.Test.YtjolkdjkhekbnaaGreatDoorSvS
import Derived.Test.YtjolkdjkhekbnaaGreatDoorEv8
namespace Go.Proofs.YtjolkdjkhekbnaaGreatDoor.Sv
open Go Go.Sv Go.Proofs
set_option maxRecDepth 100000
set_option maxHeartbeats 4000000
class zcx [Dfr]:Prop where
 c_runs_All:zak Tryz.prog 20∧∀x r,yvi x=some r→zbr Tryz.prog E 20 x r
 c_runs_Find:zak Tryz.prog 24∧∀x r,yvh x=some r→zbr Tryz.prog E 24 x r
 c_move_ways:zak Tryz.prog 59∧∀x r,yve x=some r→zbr Tryz.prog E 59 x r
 c_step_Put:zak Tryz.prog 72∧∀x r,yvd x=some r→zbr Tryz.prog E 72 x r
 c_plot_Over:zak Tryz.prog 103∧∀x r,yqd x=some r→zbr Tryz.prog E 103 x r
 c_trace_Mix:zak Tryz.prog 180∧∀x r,yqc x=some r→zbr Tryz.prog E 180 x r
theorem zez {d d':Dfr} {f:Nat} {x:Tup (sg f).args} {r:Tup (sg f).res} (h:zbr Tryz.prog (@E d) f x r):zbr Tryz.prog (@E d') f x r:=fun w F0 G A vs hA=>h w F0 G A vs ⟨hA.rel,hA.bx,hA.tgm,hA.tgi,hA.f0,hA.glob⟩
theorem rows [Dfr]:(tiT.list.all fun p=>rowIs Tryz.prog p.1 p.2)=true:=by kernel_rfl
theorem yvl [Dfr]:(tiT.list.all fun p=> !p.2.eq||Nat.beq p.1 68||Nat.beq p.1 71)=true:=by kernel_rfl
theorem eq68 [Dfr]:(T68).flat=true∧∀(w:World) (op:BinOp) (x y:Operand) (a b:(T68).den),(eqGuard op 68 x y (.agg (zal T68 a).toArray) (.agg (zal T68 b).toArray)).run Tryz.prog w= .ok () w∧(Op.equalIn 10000 68 (.agg (zal T68 a).toArray) (.agg (zal T68 b).toArray)).run Tryz.prog w= .ok (eqD T68 a b) w:=yqe rfl (by kernel_rfl) (by kernel_rfl) (by kernel_rfl) (by kernel_rfl)
theorem eq71 [Dfr]:(T71).flat=true∧∀(w:World) (op:BinOp) (x y:Operand) (a b:(T71).den),(eqGuard op 71 x y (.agg (zal T71 a).toArray) (.agg (zal T71 b).toArray)).run Tryz.prog w= .ok () w∧(Op.equalIn 10000 71 (.agg (zal T71 a).toArray) (.agg (zal T71 b).toArray)).run Tryz.prog w= .ok (eqD T71 a b) w:=yqe rfl (by kernel_rfl) (by kernel_rfl) (by kernel_rfl) (by kernel_rfl)
theorem types [Dfr]:zdu Tryz.prog E:=⟨fun t i h=>by
 have hm:(t,i)∈tiT.list:=Tree.zzk h
 refine ykw (List.all_eq_true.1 rows _ hm) fun he u hu=> ?_
 have h1:=List.all_eq_true.1 yvl _ hm
 simp only [he,Bool.not_true,Bool.false_or,Bool.or_eq_true] at h1
 rcases h1 with h1|h1
 ·have h2:t=68:=Nat.eq_of_beq_eq_true h1
  subst h2
  cases h.symm.trans (show E.ti 68=some _ from rfl)
  cases hu
  exact eq68
 ·have h2:t=71:=Nat.eq_of_beq_eq_true h1
  subst h2
  cases h.symm.trans (show E.ti 71=some _ from rfl)
  cases hu
  exact eq71⟩
theorem ydr [Dfr]:znk Tryz.prog E 80 false 33 T33:=qbt (ρ:=Tryz.qkl) Tryz.yuc rfl Tryz.isAgg33 Tryz.sizeOf33 ⟨Tryz.f80,Tryz.func80,by kernel_rfl,by kernel_rfl⟩
theorem ydq [Dfr]:znk Tryz.prog E 81 true 33 T33:=zty (T:=43) (e:=33) (B:=4) (I:=3) (FT:=110) (U:=0) ⟨by kernel_rfl,Tryz.underlying0,Tryz.underlying3,Tryz.underlying4,Tryz.underlying43,⟨_,_,Tryz.underlying110⟩,Tryz.isAgg0,Tryz.isAgg3,Tryz.isAgg4,Tryz.isAgg43,Tryz.isAgg110,Tryz.sizeOf3,Tryz.sizeOf4,Tryz.sizeOf43,Tryz.sizeOf110⟩ ⟨Tryz.f81.name,by decide,Tryz.func81.trans (congrArg some (by kernel_rfl))⟩ rfl Tryz.isAgg33 Tryz.sizeOf33 _ Tryz.zeroValue33 rfl (by decide) ⟨Tryz.f81,Tryz.func81,by kernel_rfl,by kernel_rfl⟩
theorem qzu [Dfr]:znk Tryz.prog E 227 false 26 ((.slice 9 .str)):=qql (ρ:=Tryz.qfi) Tryz.yrc rfl ⟨Tryz.f227,Tryz.func227,by kernel_rfl,by kernel_rfl⟩
theorem qzt [Dfr]:znk Tryz.prog E 228 true 26 ((.slice 9 .str)):=qhz (T:=184) (e:=26) (B:=4) (I:=3) (FT:=60) (U:=0) ⟨by kernel_rfl,Tryz.underlying0,Tryz.underlying3,Tryz.underlying4,Tryz.underlying184,⟨_,_,Tryz.underlying60⟩,Tryz.isAgg0,Tryz.isAgg3,Tryz.isAgg4,Tryz.isAgg184,Tryz.isAgg60,Tryz.sizeOf3,Tryz.sizeOf4,Tryz.sizeOf184,Tryz.sizeOf60⟩ ⟨Tryz.f228.name,by decide,Tryz.func228.trans (congrArg some (by kernel_rfl))⟩ rfl Tryz.isAgg26 Tryz.sizeOf26 _ Tryz.zeroValue26 rfl (by decide) ⟨Tryz.f228,Tryz.func228,by kernel_rfl,by kernel_rfl⟩
theorem qzs [Dfr]:znk Tryz.prog E 233 false 139 T139:=qbt (ρ:=Tryz.qfh) Tryz.yrb rfl Tryz.isAgg139 Tryz.sizeOf139 ⟨Tryz.f233,Tryz.func233,by kernel_rfl,by kernel_rfl⟩
theorem qzr [Dfr]:znk Tryz.prog E 234 true 139 T139:=zty (T:=136) (e:=139) (B:=4) (I:=3) (FT:=230) (U:=0) ⟨by kernel_rfl,Tryz.underlying0,Tryz.underlying3,Tryz.underlying4,Tryz.underlying136,⟨_,_,Tryz.underlying230⟩,Tryz.isAgg0,Tryz.isAgg3,Tryz.isAgg4,Tryz.isAgg136,Tryz.isAgg230,Tryz.sizeOf3,Tryz.sizeOf4,Tryz.sizeOf136,Tryz.sizeOf230⟩ ⟨Tryz.f234.name,by decide,Tryz.func234.trans (congrArg some (by kernel_rfl))⟩ rfl Tryz.isAgg139 Tryz.sizeOf139 _ Tryz.zeroValue139 rfl (by decide) ⟨Tryz.f234,Tryz.func234,by kernel_rfl,by kernel_rfl⟩
theorem yun [Dfr]:qtn Tryz.prog E:=fun f b e u h=>by
 have h':yrk f=some (b,e,u):=h
 unfold yrk at h'
 split at h'
 ·rename_i hf
  subst hf
  cases h'
  exact ydr
 split at h'
 ·rename_i hf
  subst hf
  cases h'
  exact ydq
 split at h'
 ·rename_i hf
  subst hf
  cases h'
  exact qzu
 split at h'
 ·rename_i hf
  subst hf
  cases h'
  exact qzt
 split at h'
 ·rename_i hf
  subst hf
  cases h'
  exact qzs
 split at h'
 ·rename_i hf
  subst hf
  cases h'
  exact qzr
 cases h'
theorem ydy [Dfr]:qyw Tryz.prog 220 3 (.int .i64):=qus (ρ:=Tryz.qks) Tryz.yup ⟨Tryz.f220,Tryz.func220,by kernel_rfl,by kernel_rfl⟩
theorem yuo [Dfr]:qyv Tryz.prog E:=fun f e u h=>by
 have h':yrs f=some (e,u):=h
 unfold yrs at h'
 split at h'
 ·rename_i hf
  subst hf
  cases h'
  exact ydy
 cases h'
theorem tab [Dfr]:zvf Tryz.prog E:=⟨by kernel_rfl,types,ygx fun t i h=>List.all_eq_true.1 rows _ (Tree.zzk h),yun,yeq fun _ _ _ _ _ _=>rfl,yuo⟩
theorem dsts [Dfr]:(fnT.list.all fun p=> !(p.2.name== "runtime.NumGoroutine")&&(match p.2.body with|some c=>zgs p.2.ntmps c|none=>true))=true:=by kernel_rfl
theorem funcs [Dfr]:∀p∈fnT.list,Tryz.prog.funcs[p.1]? =some p.2:=by
 show ∀p∈[(122,Tryz.f122),(62,Tryz.f62),(31,Tryz.f31),(16,Tryz.f16),(9,Tryz.f9),(6,Tryz.f6),(4,Tryz.f4),(3,Tryz.f3),(5,Tryz.f5),(8,Tryz.f8),(7,Tryz.f7),(13,Tryz.f13),(11,Tryz.f11),(10,Tryz.f10),(12,Tryz.f12),(15,Tryz.f15),(14,Tryz.f14),(25,Tryz.f25),(21,Tryz.f21),(18,Tryz.f18),(17,Tryz.f17),(19,Tryz.f19),(23,Tryz.f23),(22,Tryz.f22),(28,Tryz.f28),(27,Tryz.f27),(26,Tryz.f26),(30,Tryz.f30),(29,Tryz.f29),(47,Tryz.f47),(38,Tryz.f38),(35,Tryz.f35),(33,Tryz.f33),(32,Tryz.f32),(34,Tryz.f34),(37,Tryz.f37),(36,Tryz.f36),(43,Tryz.f43),(41,Tryz.f41),(40,Tryz.f40),(42,Tryz.f42),(46,Tryz.f46),(44,Tryz.f44),(55,Tryz.f55),(52,Tryz.f52),(50,Tryz.f50),(48,Tryz.f48),(51,Tryz.f51),(54,Tryz.f54),(53,Tryz.f53),(58,Tryz.f58),(57,Tryz.f57),(56,Tryz.f56),(61,Tryz.f61),(60,Tryz.f60),(95,Tryz.f95),(77,Tryz.f77),(69,Tryz.f69),(66,Tryz.f66),(64,Tryz.f64),(63,Tryz.f63),(65,Tryz.f65),(68,Tryz.f68),(67,Tryz.f67),(74,Tryz.f74),(71,Tryz.f71),(70,Tryz.f70),(73,Tryz.f73),(76,Tryz.f76),(75,Tryz.f75),(89,Tryz.f89),(86,Tryz.f86),(82,Tryz.f82),(78,Tryz.f78),(85,Tryz.f85),(88,Tryz.f88),(87,Tryz.f87),(92,Tryz.f92),(91,Tryz.f91),(90,Tryz.f90),(94,Tryz.f94),(93,Tryz.f93),(109,Tryz.f109),(102,Tryz.f102),(99,Tryz.f99),(97,Tryz.f97),(96,Tryz.f96),(98,Tryz.f98),(101,Tryz.f101),(100,Tryz.f100),(106,Tryz.f106),(105,Tryz.f105),(104,Tryz.f104),(108,Tryz.f108),(107,Tryz.f107),(116,Tryz.f116),(113,Tryz.f113),(111,Tryz.f111),(110,Tryz.f110),(112,Tryz.f112),(115,Tryz.f115),(114,Tryz.f114),(119,Tryz.f119),(118,Tryz.f118),(117,Tryz.f117),(121,Tryz.f121),(120,Tryz.f120),(181,Tryz.f181),(152,Tryz.f152),(136,Tryz.f136),(129,Tryz.f129),(126,Tryz.f126),(124,Tryz.f124),(123,Tryz.f123),(125,Tryz.f125),(128,Tryz.f128),(127,Tryz.f127),(133,Tryz.f133),(131,Tryz.f131),(130,Tryz.f130),(132,Tryz.f132),(135,Tryz.f135),(134,Tryz.f134),(146,Tryz.f146),(143,Tryz.f143),(138,Tryz.f138),(137,Tryz.f137),(142,Tryz.f142),(145,Tryz.f145),(144,Tryz.f144),(149,Tryz.f149),(148,Tryz.f148),(147,Tryz.f147),(151,Tryz.f151),(150,Tryz.f150),(166,Tryz.f166),(159,Tryz.f159),(156,Tryz.f156),(154,Tryz.f154),(153,Tryz.f153),(155,Tryz.f155),(158,Tryz.f158),(157,Tryz.f157),(163,Tryz.f163),(161,Tryz.f161),(160,Tryz.f160),(162,Tryz.f162),(165,Tryz.f165),(164,Tryz.f164),(174,Tryz.f174),(171,Tryz.f171),(169,Tryz.f169),(167,Tryz.f167),(170,Tryz.f170),(173,Tryz.f173),(172,Tryz.f172),(177,Tryz.f177),(176,Tryz.f176),(175,Tryz.f175),(179,Tryz.f179),(178,Tryz.f178),(219,Tryz.f219),(195,Tryz.f195),(188,Tryz.f188),(185,Tryz.f185),(183,Tryz.f183),(182,Tryz.f182),(184,Tryz.f184),(187,Tryz.f187),(186,Tryz.f186),(192,Tryz.f192),(190,Tryz.f190),(189,Tryz.f189),(191,Tryz.f191),(194,Tryz.f194),(193,Tryz.f193),(213,Tryz.f213),(210,Tryz.f210),(208,Tryz.f208),(207,Tryz.f207),(209,Tryz.f209),(212,Tryz.f212),(211,Tryz.f211),(216,Tryz.f216),(215,Tryz.f215),(214,Tryz.f214),(218,Tryz.f218),(217,Tryz.f217),(239,Tryz.f239),(231,Tryz.f231),(225,Tryz.f225),(222,Tryz.f222),(221,Tryz.f221),(224,Tryz.f224),(230,Tryz.f230),(229,Tryz.f229),(236,Tryz.f236),(235,Tryz.f235),(232,Tryz.f232),(238,Tryz.f238),(237,Tryz.f237),(254,Tryz.f254),(249,Tryz.f249),(241,Tryz.f241),(240,Tryz.f240),(248,Tryz.f248),(251,Tryz.f251),(250,Tryz.f250),(289,Tryz.f289),(278,Tryz.f278),(255,Tryz.f255),(296,Tryz.f296),(290,Tryz.f290)],Tryz.prog.funcs[p.1]? =some p.2
 intro p hp
 simp only [List.mem_cons,List.not_mem_nil,or_false] at hp
 rcases hp with rfl|rfl|rfl|rfl|rfl|rfl|rfl|rfl|rfl|rfl|rfl|rfl|rfl|rfl|rfl|rfl|rfl|rfl|rfl|rfl|rfl|rfl|rfl|rfl|rfl|rfl|rfl|rfl|rfl|rfl|rfl|rfl|rfl|rfl|rfl|rfl|rfl|rfl|rfl|rfl|rfl|rfl|rfl|rfl|rfl|rfl|rfl|rfl|rfl|rfl|rfl|rfl|rfl|rfl|rfl|rfl|rfl|rfl|rfl|rfl|rfl|rfl|rfl|rfl|rfl|rfl|rfl|rfl|rfl|rfl|rfl|rfl|rfl|rfl|rfl|rfl|rfl|rfl|rfl|rfl|rfl|rfl|rfl|rfl|rfl|rfl|rfl|rfl|rfl|rfl|rfl|rfl|rfl|rfl|rfl|rfl|rfl|rfl|rfl|rfl|rfl|rfl|rfl|rfl|rfl|rfl|rfl|rfl|rfl|rfl|rfl|rfl|rfl|rfl|rfl|rfl|rfl|rfl|rfl|rfl|rfl|rfl|rfl|rfl|rfl|rfl|rfl|rfl|rfl|rfl|rfl|rfl|rfl|rfl|rfl|rfl|rfl|rfl|rfl|rfl|rfl|rfl|rfl|rfl|rfl|rfl|rfl|rfl|rfl|rfl|rfl|rfl|rfl|rfl|rfl|rfl|rfl|rfl|rfl|rfl|rfl|rfl|rfl|rfl|rfl|rfl|rfl|rfl|rfl|rfl|rfl|rfl|rfl|rfl|rfl|rfl|rfl|rfl|rfl|rfl|rfl|rfl|rfl|rfl|rfl|rfl|rfl|rfl|rfl|rfl|rfl|rfl|rfl|rfl|rfl|rfl|rfl|rfl|rfl|rfl|rfl|rfl|rfl|rfl|rfl|rfl|rfl|rfl|rfl|rfl|rfl|rfl|rfl
 ·exact Tryz.func122
 ·exact Tryz.func62
 ·exact Tryz.func31
 ·exact Tryz.func16
 ·exact Tryz.func9
 ·exact Tryz.func6
 ·exact Tryz.func4
 ·exact Tryz.func3
 ·exact Tryz.func5
 ·exact Tryz.func8
 ·exact Tryz.func7
 ·exact Tryz.func13
 ·exact Tryz.func11
 ·exact Tryz.func10
 ·exact Tryz.func12
 ·exact Tryz.func15
 ·exact Tryz.func14
 ·exact Tryz.func25
 ·exact Tryz.func21
 ·exact Tryz.func18
 ·exact Tryz.func17
 ·exact Tryz.func19
 ·exact Tryz.func23
 ·exact Tryz.func22
 ·exact Tryz.func28
 ·exact Tryz.func27
 ·exact Tryz.func26
 ·exact Tryz.func30
 ·exact Tryz.func29
 ·exact Tryz.func47
 ·exact Tryz.func38
 ·exact Tryz.func35
 ·exact Tryz.func33
 ·exact Tryz.func32
 ·exact Tryz.func34
 ·exact Tryz.func37
 ·exact Tryz.func36
 ·exact Tryz.func43
 ·exact Tryz.func41
 ·exact Tryz.func40
 ·exact Tryz.func42
 ·exact Tryz.func46
 ·exact Tryz.func44
 ·exact Tryz.func55
 ·exact Tryz.func52
 ·exact Tryz.func50
 ·exact Tryz.func48
 ·exact Tryz.func51
 ·exact Tryz.func54
 ·exact Tryz.func53
 ·exact Tryz.func58
 ·exact Tryz.func57
 ·exact Tryz.func56
 ·exact Tryz.func61
 ·exact Tryz.func60
 ·exact Tryz.func95
 ·exact Tryz.func77
 ·exact Tryz.func69
 ·exact Tryz.func66
 ·exact Tryz.func64
 ·exact Tryz.func63
 ·exact Tryz.func65
 ·exact Tryz.func68
 ·exact Tryz.func67
 ·exact Tryz.func74
 ·exact Tryz.func71
 ·exact Tryz.func70
 ·exact Tryz.func73
 ·exact Tryz.func76
 ·exact Tryz.func75
 ·exact Tryz.func89
 ·exact Tryz.func86
 ·exact Tryz.func82
 ·exact Tryz.func78
 ·exact Tryz.func85
 ·exact Tryz.func88
 ·exact Tryz.func87
 ·exact Tryz.func92
 ·exact Tryz.func91
 ·exact Tryz.func90
 ·exact Tryz.func94
 ·exact Tryz.func93
 ·exact Tryz.func109
 ·exact Tryz.func102
 ·exact Tryz.func99
 ·exact Tryz.func97
 ·exact Tryz.func96
 ·exact Tryz.func98
 ·exact Tryz.func101
 ·exact Tryz.func100
 ·exact Tryz.func106
 ·exact Tryz.func105
 ·exact Tryz.func104
 ·exact Tryz.func108
 ·exact Tryz.func107
 ·exact Tryz.func116
 ·exact Tryz.func113
 ·exact Tryz.func111
 ·exact Tryz.func110
 ·exact Tryz.func112
 ·exact Tryz.func115
 ·exact Tryz.func114
 ·exact Tryz.func119
 ·exact Tryz.func118
 ·exact Tryz.func117
 ·exact Tryz.func121
 ·exact Tryz.func120
 ·exact Tryz.func181
 ·exact Tryz.func152
 ·exact Tryz.func136
 ·exact Tryz.func129
 ·exact Tryz.func126
 ·exact Tryz.func124
 ·exact Tryz.func123
 ·exact Tryz.func125
 ·exact Tryz.func128
 ·exact Tryz.func127
 ·exact Tryz.func133
 ·exact Tryz.func131
 ·exact Tryz.func130
 ·exact Tryz.func132
 ·exact Tryz.func135
 ·exact Tryz.func134
 ·exact Tryz.func146
 ·exact Tryz.func143
 ·exact Tryz.func138
 ·exact Tryz.func137
 ·exact Tryz.func142
 ·exact Tryz.func145
 ·exact Tryz.func144
 ·exact Tryz.func149
 ·exact Tryz.func148
 ·exact Tryz.func147
 ·exact Tryz.func151
 ·exact Tryz.func150
 ·exact Tryz.func166
 ·exact Tryz.func159
 ·exact Tryz.func156
 ·exact Tryz.func154
 ·exact Tryz.func153
 ·exact Tryz.func155
 ·exact Tryz.func158
 ·exact Tryz.func157
 ·exact Tryz.func163
 ·exact Tryz.func161
 ·exact Tryz.func160
 ·exact Tryz.func162
 ·exact Tryz.func165
 ·exact Tryz.func164
 ·exact Tryz.func174
 ·exact Tryz.func171
 ·exact Tryz.func169
 ·exact Tryz.func167
 ·exact Tryz.func170
 ·exact Tryz.func173
 ·exact Tryz.func172
 ·exact Tryz.func177
 ·exact Tryz.func176
 ·exact Tryz.func175
 ·exact Tryz.func179
 ·exact Tryz.func178
 ·exact Tryz.func219
 ·exact Tryz.func195
 ·exact Tryz.func188
 ·exact Tryz.func185
 ·exact Tryz.func183
 ·exact Tryz.func182
 ·exact Tryz.func184
 ·exact Tryz.func187
 ·exact Tryz.func186
 ·exact Tryz.func192
 ·exact Tryz.func190
 ·exact Tryz.func189
 ·exact Tryz.func191
 ·exact Tryz.func194
 ·exact Tryz.func193
 ·exact Tryz.func213
 ·exact Tryz.func210
 ·exact Tryz.func208
 ·exact Tryz.func207
 ·exact Tryz.func209
 ·exact Tryz.func212
 ·exact Tryz.func211
 ·exact Tryz.func216
 ·exact Tryz.func215
 ·exact Tryz.func214
 ·exact Tryz.func218
 ·exact Tryz.func217
 ·exact Tryz.func239
 ·exact Tryz.func231
 ·exact Tryz.func225
 ·exact Tryz.func222
 ·exact Tryz.func221
 ·exact Tryz.func224
 ·exact Tryz.func230
 ·exact Tryz.func229
 ·exact Tryz.func236
 ·exact Tryz.func235
 ·exact Tryz.func232
 ·exact Tryz.func238
 ·exact Tryz.func237
 ·exact Tryz.func254
 ·exact Tryz.func249
 ·exact Tryz.func241
 ·exact Tryz.func240
 ·exact Tryz.func248
 ·exact Tryz.func251
 ·exact Tryz.func250
 ·exact Tryz.func289
 ·exact Tryz.func278
 ·exact Tryz.func255
 ·exact Tryz.func296
 ·exact Tryz.func290
theorem fns [Dfr]:∀f fn,E.fn f=some fn→Tryz.prog.funcs[f]? =some fn∧(fn.name== "runtime.NumGoroutine")=false∧∀c,fn.body=some c→zgs fn.ntmps c=true:=fun f fn h=>by
 have hm:(f,fn)∈fnT.list:=Tree.zzk h
 have h1:=List.all_eq_true.1 dsts _ hm
 simp only [Bool.and_eq_true,Bool.not_eq_true'] at h1
 exact ⟨funcs _ hm,h1.1,fun c hc=>by have h2:=h1.2;rw [hc] at h2;exact h2⟩
theorem ygq [Dfr]:zak Tryz.prog 39∧∀x r,yvg x=some r→zbr Tryz.prog E 39 x r:=by
 refine ⟨⟨Tryz.f39,Tryz.func39,by kernel_rfl,by kernel_rfl⟩,fun x r h=> ?_⟩
 have h':(bif zav (List.length x) 32 then some x else none)=some r:=h
 cases hr:zav (List.length x) 32 with
 |false=>rw [hr] at h';cases h'
 |true =>
  rw [hr] at h'
  cases h'
  exact zph tab Tryz.func39 rfl rfl rfl rfl (show E.sig 39=_ from rfl) (show E.ti 22=some _ from rfl) rfl rfl (show E.ti 68=some _ from rfl) (by decide) rfl rfl HEq.rfl HEq.rfl hr rfl
theorem ygp [Dfr]:zak Tryz.prog 45∧∀x r,yvf x=some r→zbr Tryz.prog E 45 x r:=by
 refine ⟨⟨Tryz.f45,Tryz.func45,by kernel_rfl,by kernel_rfl⟩,fun x r h=> ?_⟩
 have h':(bif zav (List.length x) 16 then some x else none)=some r:=h
 cases hr:zav (List.length x) 16 with
 |false=>rw [hr] at h';cases h'
 |true =>
  rw [hr] at h'
  cases h'
  exact zph tab Tryz.func45 rfl rfl rfl rfl (show E.sig 45=_ from rfl) (show E.ti 26=some _ from rfl) rfl rfl (show E.ti 9=some _ from rfl) (by decide) rfl rfl HEq.rfl HEq.rfl hr rfl
theorem ygo [Dfr]:zak Tryz.prog 79∧∀x r,yvc x=some r→zbr Tryz.prog E 79 x r:=by
 refine ⟨⟨Tryz.f79,Tryz.func79,by kernel_rfl,by kernel_rfl⟩,fun x r h=> ?_⟩
 have h':(bif zav (List.length x) 32 then some x else none)=some r:=h
 cases hr:zav (List.length x) 32 with
 |false=>rw [hr] at h';cases h'
 |true =>
  rw [hr] at h'
  cases h'
  exact zph tab Tryz.func79 rfl rfl rfl rfl (show E.sig 79=_ from rfl) (show E.ti 43=some _ from rfl) rfl rfl (show E.ti 33=some _ from rfl) (by decide) rfl rfl HEq.rfl HEq.rfl hr rfl
theorem yau [Dfr]:zak Tryz.prog 277∧∀x r,yqb x=some r→zbr Tryz.prog E 277 x r :=
 ⟨⟨Tryz.f277,Tryz.func277,by kernel_rfl,by kernel_rfl⟩,fun x r h=>qmg (E:=E) (f:=277) rfl (fun s c w h1 h2 h3=>qza Tryz.ysq (by kernel_rfl) s c w h1 h2 (ascii_of_all h3)) x r x r HEq.rfl HEq.rfl h⟩
theorem ynb [Dfr] [zcx]:∀f g,E.foreign f=some g→zak Tryz.prog f∧∀x r,g x=some r→zbr Tryz.prog E f x r:=fun f g h=>by
 have h':frT f=some g:=h
 unfold frT at h'
 split at h'
 ·rename_i hf
  subst hf
  cases h'
  exact yau
 split at h'
 ·rename_i hf
  subst hf
  cases h'
  exact zcx.c_trace_Mix
 split at h'
 ·rename_i hf
  subst hf
  cases h'
  exact zcx.c_plot_Over
 split at h'
 ·rename_i hf
  subst hf
  cases h'
  exact ygo
 split at h'
 ·rename_i hf
  subst hf
  cases h'
  exact zcx.c_step_Put
 split at h'
 ·rename_i hf
  subst hf
  cases h'
  exact zcx.c_move_ways
 split at h'
 ·rename_i hf
  subst hf
  cases h'
  exact ygp
 split at h'
 ·rename_i hf
  subst hf
  cases h'
  exact ygq
 split at h'
 ·rename_i hf
  subst hf
  cases h'
  exact zcx.c_runs_Find
 split at h'
 ·rename_i hf
  subst hf
  cases h'
  exact zcx.c_runs_All
 cases h'
theorem qvy [Dfr] [zcx]:ytj Tryz.prog E:=⟨tab,fns,ynb⟩
end Go.Proofs.YtjolkdjkhekbnaaGreatDoor.Sv
