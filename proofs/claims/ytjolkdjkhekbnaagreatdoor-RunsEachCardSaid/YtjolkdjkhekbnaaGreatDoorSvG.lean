/- The functions of the seat by name, as the evaluator tells them: what each tells in the end, and its equation, checked by the kernel. Written by a program (gen.py, emit3.py). -/
import Derived.Test.YtjolkdjkhekbnaaGreatDoorSvE
namespace Go.Proofs.YtjolkdjkhekbnaaGreatDoor.Sv
open Go Go.Sv Go.Proofs
set_option maxRecDepth 100000
theorem _root_.Go.Sv.zbd.r [Dfr] (f:Nat) {x:Tup (E.sig f).args}:zbd (fun k=>Go.Sv.run E k f x) (lim fun k=>Go.Sv.run E k f x):=.run f x
theorem _root_.Go.Sv.zbd.l [Dfr] (f b:Nat) {x:Tup (E.hs f b).ks}:zbd (fun k=>Go.Sv.lp E f b k k x) (lim fun k=>Go.Sv.lp E f b k k x):=.lp f b x
noncomputable def zvs [Dfr] (x0:List Nd) (x1:Tc):Option (Bool):=lim fun k=>run E k 8 (x0,x1)
noncomputable def zha [Dfr] (y0:List Nd) (y3:Tc) (y4:Bool) (y5 y51:List Tc) (y52 y53:Int):Option (Nat×(List Nd×Tc×Bool×List Tc)):=lim fun k=>lp E 8 0 k k (y0,y3,y4,y5,y51,y52,y53)
noncomputable def qhe [Dfr] (x0:List Nd):Option (Bool):=lim fun k=>run E k 10 x0
noncomputable def zic [Dfr]:Option (Bool):=lim fun k=>run E k 11 ()
noncomputable def zsy [Dfr] (x0:List Nd) (x1:List Int):Option (List Nd×Tc):=lim fun k=>run E k 12 (x0,x1)
noncomputable def zks [Dfr] (y4 y5:List Nd×Tc) (y16:List Int) (y17 y18:Int):Option (Nat×((List Nd×Tc)×List Nd×Tc)):=lim fun k=>lp E 12 0 k k (y4,y5,y16,y17,y18)
noncomputable def zpx [Dfr] (x0:List Nd×Tc):Option (Tc×Bool):=lim fun k=>run E k 14 x0
noncomputable def zti [Dfr] (x0:List Nd):Option (Bool):=lim fun k=>run E k 19 x0
noncomputable def zrh [Dfr] (x0:List Nd):Option (List Tc×Int):=lim fun k=>run E k 20 x0
noncomputable def zmx [Dfr] (x0:List Nd) (x1:Tc):Option (List Int×Bool):=lim fun k=>run E k 24 (x0,x1)
noncomputable def zuk [Dfr] (x0 x1:List Int):Option (Bool):=lim fun k=>run E k 26 (x0,x1)
noncomputable def zmc [Dfr] (y0 y1:List Int) (y4:Bool) (y5:Int):Option (Nat×Bool):=lim fun k=>lp E 26 0 k k (y0,y1,y4,y5)
noncomputable def zey [Dfr] (x0:List Nd):Option (List Mv):=lim fun k=>run E k 28 x0
theorem qdd [Dfr] (x0:List Nd):zbd (fun k=>run E k 28 x0) (zey x0):=.run _ _
noncomputable def zdx [Dfr] (y0:List Nd) (y3:List (Int×List (Int×Nat))) (y4:List Mv) (y6:Int) (y11:List Int) (y12 y13:Int) (y23:List (Int×Nat)) (y24 y25:Int):Option (Nat×(List Nd×(List (Int×List (Int×Nat)))×List Mv×List Int×Int×Int)):=lim fun k=>lp E 28 2 k k (y0,y3,y4,y6,y11,y12,y13,y23,y24,y25)
noncomputable def zje [Dfr] (y0:List Nd) (y3:List (Int×List (Int×Nat))) (y4:List Mv) (y11:List Int) (y12 y13:Int):Option (Nat×List Mv):=lim fun k=>lp E 28 0 k k (y0,y3,y4,y11,y12,y13)
noncomputable def zpz [Dfr] (x0:List Nd) (x1:List Int):Option (Int):=lim fun k=>run E k 31 (x0,x1)
noncomputable def zku [Dfr] (y1:List Int) (y5:Int) (y8:List Nd) (y9 y10:Int):Option (Nat×Int):=lim fun k=>lp E 31 0 k k (y1,y5,y8,y9,y10)
noncomputable def zqs [Dfr] (x0 x1:Tc):Option (Int):=lim fun k=>run E k 32 (x0,x1)
noncomputable def zmn [Dfr] (x0:List Tc) (x1:Tc):Option (Bool):=lim fun k=>run E k 33 (x0,x1)
theorem qmk [Dfr] (x0:List Tc) (x1:Tc):zbd (fun k=>run E k 33 (x0,x1)) (zmn x0 x1):=.run _ _
noncomputable def qav [Dfr] (x0:List Nd):Option (Bool):=lim fun k=>run E k 35 x0
noncomputable def zwt [Dfr] (x0:List Nd):Option (Int):=lim fun k=>run E k 37 x0
noncomputable def qaf [Dfr] (x0:Tc):Option (ByteArray):=lim fun k=>run E k 38 x0
theorem qiu [Dfr] (x0:Tc):zbd (fun k=>run E k 38 x0) (qaf x0):=.run _ _
noncomputable def zcm [Dfr] (x0:List Nd):Option (List Nd):=lim fun k=>run E k 39 x0
noncomputable def qgv [Dfr] (x0:List Nd) (x1:Int):Option (Mv×Int):=lim fun k=>run E k 40 (x0,x1)
noncomputable def zmo [Dfr] (x0:List Nd) (x1:Mv):Option (List Nd×ByteArray×Int):=lim fun k=>run E k 41 (x0,x1)
theorem qmw [Dfr] (x0:List Nd) (x1:Mv):zbd (fun k=>run E k 41 (x0,x1)) (zmo x0 x1):=.run _ _
noncomputable def zcz [Dfr] (x0:List Nd):Option (Int×Bool):=lim fun k=>run E k 44 x0
theorem qda [Dfr] (x0:List Nd):zbd (fun k=>run E k 44 x0) (zcz x0):=.run _ _
noncomputable def zeq [Dfr] (x0:List ByteArray):Option (List ByteArray):=lim fun k=>run E k 45 x0
noncomputable def zuh [Dfr] (x0:List Nd):Option (Int):=lim fun k=>run E k 47 x0
theorem qjg [Dfr] (x0:List Nd):zbd (fun k=>run E k 47 x0) (zuh x0):=.run _ _
noncomputable def zpl [Dfr] (x0:List Tc):Option (List Tc):=lim fun k=>run E k 48 x0
theorem qmi [Dfr] (x0:List Tc):zbd (fun k=>run E k 48 x0) (zpl x0):=.run _ _
noncomputable def zyq [Dfr] (x0:Tc) (x1:ByteArray):Option (Tc×Bool):=lim fun k=>run E k 52 (x0,x1)
theorem qnl [Dfr] (x0:Tc) (x1:ByteArray):zbd (fun k=>run E k 52 (x0,x1)) (zyq x0 x1):=.run _ _
noncomputable def qsb [Dfr]:Option (List (Int×List (Int×Nat))):=lim fun k=>run E k 59 ()
noncomputable def zni [Dfr] (x0:List Nd):Option (List Int):=lim fun k=>run E k 60 x0
noncomputable def zfu [Dfr] (y1:List Nd) (y3:FnV) (y4:List Int) (y11 y12:Int):Option (Nat×List Int):=lim fun k=>lp E 60 0 k k (y1,y3,y4,y11,y12)
noncomputable def zep [Dfr] (x0:List Int) (x1:Int):Option (Bool):=lim fun k=>run E k 61 (x0,x1)
noncomputable def zcq [Dfr] (x0 x1:Tc):Option (Int):=lim fun k=>run E k 62 (x0,x1)
noncomputable def zch [Dfr] (x0:List Tc) (x1:FnV):Option (Bool):=lim fun k=>run E k 63 (x0,x1)
noncomputable def zwe [Dfr] (x0 x1:Tc):Option (Bool):=lim fun k=>run E k 64 (x0,x1)
noncomputable def zly [Dfr] (x0:List Nd):Option (List Nd):=lim fun k=>run E k 66 x0
noncomputable def zul [Dfr] (x0:List Nd) (x1:Int):Option (Int×Int):=lim fun k=>run E k 69 (x0,x1)
noncomputable def zmd [Dfr] (y0:List Nd) (y1 y4:Int) (y5 y6:Int) (y7 y8:Int):Option (Nat×(Int×Int×Int×Int)):=lim fun k=>lp E 69 0 k k (y0,y1,y4,y5,y6,y7,y8)
noncomputable def qvf [Dfr] (x0:List Nd) (x1:Mv):Option (Bool):=lim fun k=>run E k 71 (x0,x1)
noncomputable def qmv [Dfr] (x0:List Nd) (x1:Int) (x2:List Nd):Option (List Nd):=lim fun k=>run E k 72 (x0,x1,x2)
noncomputable def qey [Dfr] (x0:List Nd) (x1:Int):Option (List Nd):=lim fun k=>run E k 73 (x0,x1)
noncomputable def qfg [Dfr] (x0:List Nd) (x1:Bool):Option (Bool):=lim fun k=>run E k 77 (x0,x1)
noncomputable def zhp [Dfr] (x0:List Nd):Option (Bool):=lim fun k=>run E k 78 x0
noncomputable def zcw [Dfr] (x0:List Tc):Option (List Tc):=lim fun k=>run E k 79 x0
theorem zle [Dfr] (x0:List Tc):zbd (fun k=>run E k 79 x0) (zcw x0):=.run _ _
noncomputable def zwc [Dfr] (x0 x1:Tc):Option (Bool):=lim fun k=>run E k 82 (x0,x1)
noncomputable def zpk [Dfr] (x0 x1:Tc):Option (Tc):=lim fun k=>run E k 85 (x0,x1)
theorem qit [Dfr] (x0 x1:Tc):zbd (fun k=>run E k 85 (x0,x1)) (zpk x0 x1):=.run _ _
noncomputable def qgu [Dfr] (x0:List Nd) (x1:Int):Option (Bool):=lim fun k=>run E k 99 (x0,x1)
noncomputable def zqk [Dfr] (x0:List Nd) (x1:Int):Option (Bool):=lim fun k=>run E k 100 (x0,x1)
noncomputable def zrv [Dfr] (x0:Int) (x1:List Nd):Option (Bool):=lim fun k=>run E k 101 (x0,x1)
noncomputable def zet [Dfr] (x0:List Int) (x1:FnV):Option (Bool):=lim fun k=>run E k 102 (x0,x1)
noncomputable def zyt [Dfr] (x0:List Nd) (x1:Int):Option (List Int):=lim fun k=>run E k 103 (x0,x1)
noncomputable def zgu [Dfr] (x0:Int) (x1:List Nd) (x2:Int):Option (Bool):=lim fun k=>run E k 104 (x0,x1,x2)
noncomputable def qea [Dfr] (x0:List Nd) (x1 x2:Int):Option (Int):=lim fun k=>run E k 105 (x0,x1,x2)
noncomputable def zxc [Dfr] (y2 y6:Int) (y16:List (List Nd)) (y17 y18:Int):Option (Nat×Int):=lim fun k=>lp E 105 0 k k (y2,y6,y16,y17,y18)
noncomputable def qhr [Dfr] (x0:Nd):Option (Int):=lim fun k=>run E k 106 x0
noncomputable def zpp [Dfr] (x0:List Int) (x1:Int):Option (Int):=lim fun k=>run E k 107 (x0,x1)
noncomputable def zeo [Dfr] (y0:List Int) (y1 y4:Int) (y7 y8:Int):Option (Nat×Int):=lim fun k=>lp E 107 0 k k (y0,y1,y4,y7,y8)
noncomputable def zxf [Dfr] (x0:List Int):Option (Int):=lim fun k=>run E k 108 x0
noncomputable def zpf [Dfr] (y2 y3:Int) (y6:List Int) (y7 y8:Int):Option (Nat×(Int×Int)):=lim fun k=>lp E 108 0 k k (y2,y3,y6,y7,y8)
noncomputable def zea [Dfr] (x0 x1:List ByteArray):Option (Int):=lim fun k=>run E k 109 (x0,x1)
noncomputable def zcu [Dfr] (y0 y1:List ByteArray) (y4:Int) (y9:List ByteArray) (y10 y11:Int):Option (Nat×(List ByteArray×List ByteArray×Int)):=lim fun k=>lp E 109 0 k k (y0,y1,y4,y9,y10,y11)
noncomputable def zlm [Dfr] (x0 x1:Int):Option (Int):=lim fun k=>run E k 110 (x0,x1)
noncomputable def zfm [Dfr] (x0:List Tc) (x1:FnV):Option (Int):=lim fun k=>run E k 111 (x0,x1)
noncomputable def zbe [Dfr] (y0:List Tc) (y1:FnV) (y4 y7 y8:Int):Option (Nat×Int):=lim fun k=>lp E 111 0 k k (y0,y1,y4,y7,y8)
noncomputable def zbb [Dfr] (x0:List Nd):Option (List Nd):=lim fun k=>run E k 114 x0
noncomputable def zff [Dfr] (x0:List Nd):Option (List (List Nd)):=lim fun k=>run E k 115 x0
noncomputable def zwp [Dfr] (y0:List Nd) (y3:List (List Nd)) (y4 y13 y14:Int):Option (Nat×List (List Nd)):=lim fun k=>lp E 115 0 k k (y0,y3,y4,y13,y14)
noncomputable def zrm [Dfr] (x0:Int):Option (Int):=lim fun k=>run E k 124 x0
noncomputable def qnd [Dfr] (x0:Int):Option (Bool):=lim fun k=>run E k 125 x0
noncomputable def zej [Dfr] (x0:List Mv) (x1:Mv):Option (Bool):=lim fun k=>run E k 127 (x0,x1)
noncomputable def zja [Dfr] (x0:List Nd):Option (Int):=lim fun k=>run E k 128 x0
theorem qqx [Dfr] (x0:List Nd):zbd (fun k=>run E k 128 x0) (zja x0):=.run _ _
noncomputable def zri [Dfr] (y2 y3:Int) (y7:List Nd) (y8 y9:Int):Option (Nat×Int):=lim fun k=>lp E 128 0 k k (y2,y3,y7,y8,y9)
noncomputable def zqt [Dfr] (x0 x1 x2:List Nd):Option (List Nd):=lim fun k=>run E k 129 (x0,x1,x2)
noncomputable def zxw [Dfr] (x0 x1:Int):Option (List Nd):=lim fun k=>run E k 130 (x0,x1)
noncomputable def zbc [Dfr] (x0:Nd) (x1:List (List Nd)):Option (List Nd):=lim fun k=>run E k 131 (x0,x1)
noncomputable def zmr [Dfr] (x0:Int):Option (Int):=lim fun k=>run E k 136 x0
noncomputable def qmz [Dfr] (x0:List Nd):Option (Int):=lim fun k=>run E k 137 x0
noncomputable def qns [Dfr] (x0 x1:List Nd):Option (Bool):=lim fun k=>run E k 138 (x0,x1)
noncomputable def zgl [Dfr] (x0:List (List ByteArray)):Option (List ByteArray):=lim fun k=>run E k 142 x0
noncomputable def zdg [Dfr] (y0:List (List ByteArray)) (y3:Int) (y9:List (List ByteArray)) (y10 y11:Int):Option (Nat×(List (List ByteArray)×Int)):=lim fun k=>lp E 142 0 k k (y0,y3,y9,y10,y11)
noncomputable def zdf [Dfr] (y6:List ByteArray) (y25:List (List ByteArray)) (y26 y27:Int):Option (Nat×List ByteArray):=lim fun k=>lp E 142 2 k k (y6,y25,y26,y27)
noncomputable def zxd [Dfr] (x0:List Nd) (x1:Int):Option (List (List Nd)×Bool):=lim fun k=>run E k 164 (x0,x1)
noncomputable def zhs [Dfr] (y0:List Nd) (y1:Int) (y4:List (List Nd)) (y5:Bool) (y19:List Int) (y20 y21:Int):Option (Nat×(List (List Nd)×Bool)):=lim fun k=>lp E 164 0 k k (y0,y1,y4,y5,y19,y20,y21)
noncomputable def zcy [Dfr] (x0:List (List Nd)) (x1:FnV):Option (Bool):=lim fun k=>run E k 165 (x0,x1)
noncomputable def znh [Dfr] (x0:List Nd):Option (Bool):=lim fun k=>run E k 166 x0
noncomputable def zkq [Dfr] (x0:List Int) (x1:FnV):Option (Int):=lim fun k=>run E k 167 (x0,x1)
noncomputable def zde [Dfr] (y0:List Int) (y1:FnV) (y4 y7 y8:Int):Option (Nat×Int):=lim fun k=>lp E 167 0 k k (y0,y1,y4,y7,y8)
noncomputable def zie [Dfr] (x0 x1:ByteArray):Option (Int):=lim fun k=>run E k 169 (x0,x1)
noncomputable def zpe [Dfr] (x0:Int):Option (Bool):=lim fun k=>run E k 170 x0
noncomputable def zkb [Dfr] (x0:Int):Option (List Nd):=lim fun k=>run E k 171 x0
noncomputable def zrd [Dfr] (x0:Nd) (x1 x2:List Nd) (x3:Int):Option (List Nd):=lim fun k=>run E k 172 (x0,x1,x2,x3)
noncomputable def znz [Dfr] (x0 x1:List Nd):Option (List Nd):=lim fun k=>run E k 173 (x0,x1)
noncomputable def zio [Dfr] (x0:Int) (x1:List Nd):Option (List Nd):=lim fun k=>run E k 174 (x0,x1)
noncomputable def qal [Dfr] (x0:Nd) (x1 x2:List Nd):Option (List Nd):=lim fun k=>run E k 175 (x0,x1,x2)
noncomputable def qbx [Dfr] (x0:Nd) (x1:List Nd):Option (List Nd):=lim fun k=>run E k 176 (x0,x1)
noncomputable def zjb [Dfr] (x0:Int):Option (Int):=lim fun k=>run E k 177 x0
theorem qnt [Dfr] (x0:Int):zbd (fun k=>run E k 177 x0) (zjb x0):=.run _ _
noncomputable def qfq [Dfr] (x0 x1:Int):Option (Int):=lim fun k=>run E k 179 (x0,x1)
noncomputable def zjs [Dfr] (x0:List Mv) (x1:Mv):Option (Int):=lim fun k=>run E k 191 (x0,x1)
noncomputable def zcs [Dfr] (y0:List Mv) (y3:Mv) (y4 y7 y8:Int):Option (Nat×Int):=lim fun k=>lp E 191 0 k k (y0,y3,y4,y7,y8)
noncomputable def zfe [Dfr] (x0:List (List Nd)):Option (List Nd):=lim fun k=>run E k 192 x0
noncomputable def zck [Dfr] (y0:List (List Nd)) (y3:Int) (y9:List (List Nd)) (y10 y11:Int):Option (Nat×(List (List Nd)×Int)):=lim fun k=>lp E 192 0 k k (y0,y3,y9,y10,y11)
noncomputable def zcj [Dfr] (y6:List Nd) (y25:List (List Nd)) (y26 y27:Int):Option (Nat×List Nd):=lim fun k=>lp E 192 2 k k (y6,y25,y26,y27)
noncomputable def qgf [Dfr] (x0:List Nd):Option (Bool):=lim fun k=>run E k 193 x0
noncomputable def zdv [Dfr] (x0:List Nd):Option (Int):=lim fun k=>run E k 194 x0
noncomputable def zij [Dfr] (y0:List Nd) (y2:Int) (y3:List Int) (y8:List (List Nd)) (y9 y10:Int):Option (Nat×(List Nd×Int×List Int)):=lim fun k=>lp E 194 0 k k (y0,y2,y3,y8,y9,y10)
noncomputable def zfw [Dfr] (x0 x1:List Nd):Option (Bool):=lim fun k=>run E k 195 (x0,x1)
noncomputable def zct [Dfr] (y0 y1:List Nd) (y4:Bool) (y12 y13:Int):Option (Nat×Bool):=lim fun k=>lp E 195 0 k k (y0,y1,y4,y12,y13)
noncomputable def zhx [Dfr] (x0:Unit) (x1:Int):Option (List ByteArray):=lim fun k=>run E k 207 (x0,x1)
noncomputable def zgh [Dfr] (x0:List (List Nd)) (x1:FnV):Option (Int):=lim fun k=>run E k 221 (x0,x1)
noncomputable def zbj [Dfr] (y0:List (List Nd)) (y1:FnV) (y4 y7 y8:Int):Option (Nat×Int):=lim fun k=>lp E 221 0 k k (y0,y1,y4,y7,y8)
noncomputable def zgt [Dfr] (x0:List Nd):Option (Bool):=lim fun k=>run E k 222 x0
noncomputable def zys [Dfr] (x0:List Nd):Option (Bool):=lim fun k=>run E k 224 x0
theorem qro [Dfr] (x0:List Nd):zbd (fun k=>run E k 224 x0) (zys x0):=.run _ _
noncomputable def zkg [Dfr] (x0:ByteArray):Option (Bool):=lim fun k=>run E k 225 x0
noncomputable def zhi [Dfr] (x0 x1:List ByteArray):Option (Bool):=lim fun k=>run E k 229 (x0,x1)
noncomputable def zdq [Dfr] (y0 y1:List ByteArray) (y4:Bool) (y12 y13:Int):Option (Nat×Bool):=lim fun k=>lp E 229 0 k k (y0,y1,y4,y12,y13)
noncomputable def zgi [Dfr] (x0:Unit) (x1:Int):Option (List Nd):=lim fun k=>run E k 236 (x0,x1)
noncomputable def zwo [Dfr] (x0:Nd):Option (Bool):=lim fun k=>run E k 237 x0
noncomputable def qgg [Dfr] (x0:Nd):Option (Bool):=lim fun k=>run E k 238 x0
noncomputable def zdl [Dfr] (x0:List Nd) (x1:FnV):Option (Bool):=lim fun k=>run E k 239 (x0,x1)
noncomputable def zxz [Dfr] (x0 x1:Int):Option (Int):=lim fun k=>run E k 240 (x0,x1)
noncomputable def zms [Dfr] (x0 x1 x2:Int):Option (Int):=lim fun k=>run E k 241 (x0,x1,x2)
noncomputable def qgb [Dfr] (x0:ByteArray):Option (Bool):=lim fun k=>run E k 254 x0
noncomputable def zhd [Dfr] (x0:List Nd) (x1:FnV):Option (Int):=lim fun k=>run E k 255 (x0,x1)
noncomputable def zbp [Dfr] (y0:List Nd) (y1:FnV) (y4 y7 y8:Int):Option (Nat×Int):=lim fun k=>lp E 255 0 k k (y0,y1,y4,y7,y8)
noncomputable def zsl [Dfr] (x0 x1:ByteArray):Option (ByteArray):=lim fun k=>run E k 277 (x0,x1)
noncomputable def zfd [Dfr] (x0:List ByteArray) (x1:ByteArray):Option (Bool):=lim fun k=>run E k 278 (x0,x1)
noncomputable def zlo [Dfr] (x0:List ByteArray) (x1:ByteArray):Option (Int):=lim fun k=>run E k 296 (x0,x1)
noncomputable def zdo [Dfr] (y0:List ByteArray) (y1:ByteArray) (y4 y7 y8:Int):Option (Nat×Int):=lim fun k=>lp E 296 0 k k (y0,y1,y4,y7,y8)
end Go.Proofs.YtjolkdjkhekbnaaGreatDoor.Sv
