/- The functions of the seat by name, as the evaluator tells them: what each tells in the end, and its equation, checked by the kernel. Written by a program (gen.py, emit3.py). -/
import Derived.Test.YtjolkdjkhekbnaaGreatDoorSvE
set_option linter.unusedVariables false
set_option linter.unusedSimpArgs false
namespace Go.Proofs.YtjolkdjkhekbnaaGreatDoor.Sv
open Go Go.Sv Go.Proofs
set_option maxRecDepth 100000
theorem _root_.Go.Sv.zbs.r [Dfr] (f:Nat) {x:Tup (E.sig f).args}:zbs (fun k=>Go.Sv.run E k f x) (lim fun k=>Go.Sv.run E k f x):=.run f x
theorem _root_.Go.Sv.zbs.l [Dfr] (f b:Nat) {x:Tup (E.hs f b).ks}:zbs (fun k=>Go.Sv.lp E f b k k x) (lim fun k=>Go.Sv.lp E f b k k x):=.lp f b x
noncomputable def qia [Dfr] (x0:List Nd):Option (Bool):=lim fun k=>run E k 4 x0
noncomputable def qdk [Dfr] (x0:List Nd) (x1:Tc):Option (Bool):=lim fun k=>run E k 5 (x0,x1)
noncomputable def qrw [Dfr] (x0:List Nd):Option (Bool):=lim fun k=>run E k 10 x0
noncomputable def zja [Dfr]:Option (Bool):=lim fun k=>run E k 11 ()
noncomputable def zzi [Dfr] (x0:List Nd) (x1:List Int):Option (List Nd×Tc):=lim fun k=>run E k 12 (x0,x1)
noncomputable def zof [Dfr] (y4 y5:List Nd×Tc) (y16:List Int) (y17 y18:Int):Option (Nat×((List Nd×Tc)×List Nd×Tc)):=lim fun k=>lp E 12 0 k k (y4,y5,y16,y17,y18)
noncomputable def zva [Dfr] (x0:List Nd×Tc):Option (Tc×Bool):=lim fun k=>run E k 14 x0
noncomputable def zeu [Dfr] (x0 x1:Tc):Option (Int):=lim fun k=>run E k 17 (x0,x1)
noncomputable def qjq [Dfr] (x0 x1:List Nd):Option (Bool):=lim fun k=>run E k 18 (x0,x1)
noncomputable def zpz [Dfr] (y0 y1:List Nd) (y4:Bool) (y5:Int):Option (Nat×Bool):=lim fun k=>lp E 18 0 k k (y0,y1,y4,y5)
noncomputable def zsz [Dfr] (x0:List Nd):Option (Bool):=lim fun k=>run E k 19 x0
noncomputable def zwv [Dfr] (x0:List Nd):Option (List Tc×Int):=lim fun k=>run E k 20 x0
noncomputable def qqk [Dfr] (x0:List Nd):Option (List Tc×Int):=lim fun k=>run E k 21 x0
noncomputable def qjr [Dfr] (x0 x1:List Tc):Option (Bool):=lim fun k=>run E k 22 (x0,x1)
noncomputable def zqa [Dfr] (y0 y1:List Tc) (y4:Bool) (y5:Int):Option (Nat×Bool):=lim fun k=>lp E 22 0 k k (y0,y1,y4,y5)
noncomputable def qka [Dfr] (x0:List Tc):Option (List Tc):=lim fun k=>run E k 23 x0
noncomputable def zqf [Dfr] (y3 y6:List Tc) (y7 y8:Int):Option (Nat×List Tc):=lim fun k=>lp E 23 0 k k (y3,y6,y7,y8)
noncomputable def zzj [Dfr] (x0:List Nd) (x1:Tc):Option (List Int×Bool):=lim fun k=>run E k 24 (x0,x1)
noncomputable def qjn [Dfr] (x0:List Nd) (x1:Tc):Option (List Int×Bool):=lim fun k=>run E k 25 (x0,x1)
noncomputable def zjo [Dfr] (y0:List Nd) (y3:Tc) (y4:List Int) (y5:Bool) (y6:List Int):Option (Nat×(List Int×Bool)):=lim fun k=>lp E 25 0 k k (y0,y3,y4,y5,y6)
noncomputable def zvf [Dfr] (x0 x1:List Int):Option (Bool):=lim fun k=>run E k 26 (x0,x1)
noncomputable def zpx [Dfr] (y0 y1:List Int) (y4:Bool) (y5:Int):Option (Nat×Bool):=lim fun k=>lp E 26 0 k k (y0,y1,y4,y5)
noncomputable def zgt [Dfr] (x0:List Nd):Option (List Mv):=lim fun k=>run E k 28 x0
theorem qmy [Dfr] (x0:List Nd):zbs (fun k=>run E k 28 x0) (zgt x0):=.run _ _
noncomputable def zfb [Dfr] (y0:List Nd) (y3:List (Int×List (Int×Nat))) (y4:List Mv) (y6:Int) (y11:List Int) (y12 y13:Int) (y23:List (Int×Nat)) (y24 y25:Int):Option (Nat×(List Nd×(List (Int×List (Int×Nat)))×List Mv×List Int×Int×Int)):=lim fun k=>lp E 28 2 k k (y0,y3,y4,y6,y11,y12,y13,y23,y24,y25)
noncomputable def zmj [Dfr] (y0:List Nd) (y3:List (Int×List (Int×Nat))) (y4:List Mv) (y11:List Int) (y12 y13:Int):Option (Nat×List Mv):=lim fun k=>lp E 28 0 k k (y0,y3,y4,y11,y12,y13)
noncomputable def qak [Dfr] (x0 x1:List ByteArray):Option (List ByteArray):=lim fun k=>run E k 30 (x0,x1)
noncomputable def zzm [Dfr] (x0:List Nd) (x1:List Int):Option (Int):=lim fun k=>run E k 31 (x0,x1)
noncomputable def zoh [Dfr] (y1:List Int) (y5:Int) (y8:List Nd) (y9 y10:Int):Option (Nat×Int):=lim fun k=>lp E 31 0 k k (y1,y5,y8,y9,y10)
noncomputable def zun [Dfr] (x0:List Tc) (x1:Tc):Option (Bool):=lim fun k=>run E k 33 (x0,x1)
theorem qxw [Dfr] (x0:List Tc) (x1:Tc):zbs (fun k=>run E k 33 (x0,x1)) (zun x0 x1):=.run _ _
noncomputable def qjw [Dfr] (x0:List Nd):Option (Bool):=lim fun k=>run E k 35 x0
noncomputable def qeu [Dfr] (x0:List Nd):Option (Int):=lim fun k=>run E k 37 x0
noncomputable def qje [Dfr] (x0:Tc):Option (ByteArray):=lim fun k=>run E k 38 x0
theorem qto [Dfr] (x0:Tc):zbs (fun k=>run E k 38 x0) (qje x0):=.run _ _
noncomputable def zdl [Dfr] (x0:List Nd):Option (List Nd):=lim fun k=>run E k 39 x0
noncomputable def qrl [Dfr] (x0:List Nd) (x1:Int):Option (Mv×Int):=lim fun k=>run E k 40 (x0,x1)
noncomputable def zqs [Dfr] (x0:List Nd) (x1:Mv):Option (List Nd×ByteArray×Int):=lim fun k=>run E k 41 (x0,x1)
theorem qyj [Dfr] (x0:List Nd) (x1:Mv):zbs (fun k=>run E k 41 (x0,x1)) (zqs x0 x1):=.run _ _
noncomputable def zqj [Dfr] (x0:List Nd) (x1:Mv):Option (List Nd×ByteArray×Int):=lim fun k=>run E k 43 (x0,x1)
noncomputable def zdx [Dfr] (x0:List Nd):Option (Int×Bool):=lim fun k=>run E k 44 x0
theorem qmr [Dfr] (x0:List Nd):zbs (fun k=>run E k 44 x0) (zdx x0):=.run _ _
noncomputable def zgd [Dfr] (x0:List ByteArray):Option (List ByteArray):=lim fun k=>run E k 45 x0
noncomputable def qqw [Dfr] (x0 x1:List ByteArray):Option (Int):=lim fun k=>run E k 46 (x0,x1)
noncomputable def zst [Dfr] (y0 y1:List ByteArray) (y4 y5:Int):Option (Nat×(List ByteArray×List ByteArray×Int)):=lim fun k=>lp E 46 0 k k (y0,y1,y4,y5)
noncomputable def qbn [Dfr] (x0:List Nd):Option (Int):=lim fun k=>run E k 47 x0
theorem qua [Dfr] (x0:List Nd):zbs (fun k=>run E k 47 x0) (qbn x0):=.run _ _
noncomputable def zum [Dfr] (x0:List Tc):Option (List Tc):=lim fun k=>run E k 48 x0
theorem qxu [Dfr] (x0:List Tc):zbs (fun k=>run E k 48 x0) (zum x0):=.run _ _
noncomputable def zwy [Dfr] (x0:List Nd):Option (Int):=lim fun k=>run E k 50 x0
noncomputable def zcg [Dfr] (x0:List Nd):Option (List Tc):=lim fun k=>run E k 51 x0
noncomputable def qgx [Dfr] (x0:Tc) (x1:ByteArray):Option (Tc×Bool):=lim fun k=>run E k 52 (x0,x1)
theorem qza [Dfr] (x0:Tc) (x1:ByteArray):zbs (fun k=>run E k 52 (x0,x1)) (qgx x0 x1):=.run _ _
noncomputable def qhq [Dfr] (x0:List Tc) (x1:Tc):Option (Bool):=lim fun k=>run E k 53 (x0,x1)
noncomputable def zsv [Dfr] (y0:List Tc) (y3:Tc) (y4:Bool) (y5:Int):Option (Nat×Bool):=lim fun k=>lp E 53 0 k k (y0,y3,y4,y5)
noncomputable def zrc [Dfr] (x0:List Nd) (x1:Tc):Option (Int):=lim fun k=>run E k 54 (x0,x1)
noncomputable def zkh [Dfr] (y0:List Nd) (y3:Tc) (y4:Int) (y5:List Mv) (y6:Int):Option (Nat×Int):=lim fun k=>lp E 54 0 k k (y0,y3,y4,y5,y6)
noncomputable def zhb [Dfr] (x0:List Nd):Option (List Mv):=lim fun k=>run E k 55 x0
noncomputable def zem [Dfr] (y0:List Nd) (y3:List Mv) (y4:List Int) (y5:Int):Option (Nat×List Mv):=lim fun k=>lp E 55 0 k k (y0,y3,y4,y5)
noncomputable def zqi [Dfr] (x0:Tc) (x1:Int) (x2:ByteArray):Option (Tc×Bool):=lim fun k=>run E k 56 (x0,x1,x2)
noncomputable def zoj [Dfr] (x0:List Nd):Option (List Nd):=lim fun k=>run E k 58 x0
noncomputable def yfl [Dfr]:Option (List (Int×List (Int×Nat))):=lim fun k=>run E k 59 ()
noncomputable def zru [Dfr] (x0:List Nd):Option (List Int):=lim fun k=>run E k 60 x0
noncomputable def zhv [Dfr] (y1:List Nd) (y3:FnV) (y4:List Int) (y11 y12:Int):Option (Nat×List Int):=lim fun k=>lp E 60 0 k k (y1,y3,y4,y11,y12)
noncomputable def zgc [Dfr] (x0:List Int) (x1:Int):Option (Bool):=lim fun k=>run E k 61 (x0,x1)
noncomputable def zey [Dfr] (x0 x1:Tc):Option (Int):=lim fun k=>run E k 62 (x0,x1)
noncomputable def zdg [Dfr] (x0:List Tc) (x1:FnV):Option (Bool):=lim fun k=>run E k 63 (x0,x1)
noncomputable def qdw [Dfr] (x0 x1:Tc):Option (Bool):=lim fun k=>run E k 64 (x0,x1)
noncomputable def zpt [Dfr] (x0:List Nd):Option (List Nd):=lim fun k=>run E k 66 x0
noncomputable def zql [Dfr] (x0:List Nd) (x1:Int):Option (Int×Int):=lim fun k=>run E k 69 (x0,x1)
noncomputable def zpy [Dfr] (y0:List Nd) (y1 y4:Int) (y5 y6:Int) (y7 y8:Int):Option (Nat×(Int×Int×Int×Int)):=lim fun k=>lp E 69 0 k k (y0,y1,y4,y5,y6,y7,y8)
noncomputable def yjg [Dfr] (x0:List Nd) (x1:Mv):Option (Bool):=lim fun k=>run E k 71 (x0,x1)
noncomputable def qyi [Dfr] (x0:List Nd) (x1:Int) (x2:List Nd):Option (List Nd):=lim fun k=>run E k 72 (x0,x1,x2)
noncomputable def qox [Dfr] (x0:List Nd) (x1:Int):Option (List Nd):=lim fun k=>run E k 73 (x0,x1)
noncomputable def qzq [Dfr] (x0:List Nd) (x1:Mv):Option (Bool):=lim fun k=>run E k 74 (x0,x1)
noncomputable def zwz [Dfr] (y3:Mv) (y4:Bool) (y5:List Mv) (y6:Int):Option (Nat×Bool):=lim fun k=>lp E 74 0 k k (y3,y4,y5,y6)
noncomputable def qha [Dfr] (x0:List Nd) (x1:Int) (x2:List Nd):Option (List Nd):=lim fun k=>run E k 75 (x0,x1,x2)
noncomputable def qbq [Dfr] (x0:List Nd) (x1:Int):Option (List Nd):=lim fun k=>run E k 76 (x0,x1)
noncomputable def qpe [Dfr] (x0:List Nd) (x1:Bool):Option (Bool):=lim fun k=>run E k 77 (x0,x1)
noncomputable def zkf [Dfr] (x0:List Nd):Option (Bool):=lim fun k=>run E k 78 x0
noncomputable def zdu [Dfr] (x0:List Tc):Option (List Tc):=lim fun k=>run E k 79 x0
theorem zox [Dfr] (x0:List Tc):zbs (fun k=>run E k 79 x0) (zdu x0):=.run _ _
noncomputable def qdv [Dfr] (x0 x1:Tc):Option (Bool):=lim fun k=>run E k 82 (x0,x1)
noncomputable def zul [Dfr] (x0 x1:Tc):Option (Tc):=lim fun k=>run E k 85 (x0,x1)
theorem qtn [Dfr] (x0 x1:Tc):zbs (fun k=>run E k 85 (x0,x1)) (zul x0 x1):=.run _ _
noncomputable def yae [Dfr] (x0:List Nd) (x1:Bool):Option (Bool):=lim fun k=>run E k 86 (x0,x1)
noncomputable def zmb [Dfr] (x0:List Nd):Option (Bool):=lim fun k=>run E k 87 x0
noncomputable def qeq [Dfr] (x0:List Nd):Option (Bool):=lim fun k=>run E k 88 x0
noncomputable def zcr [Dfr] (x0:List Nd):Option (List (List Nd)):=lim fun k=>run E k 89 x0
noncomputable def zxk [Dfr] (y0:List Nd) (y3:List (List Nd)) (y4 y5:Int):Option (Nat×List (List Nd)):=lim fun k=>lp E 89 0 k k (y0,y3,y4,y5)
noncomputable def zhs [Dfr] (x0:Int):Option (Tc):=lim fun k=>run E k 90 x0
noncomputable def zri [Dfr] (x0:List Tc):Option (List Tc):=lim fun k=>run E k 91 x0
noncomputable def qep [Dfr] (x0:List (Tc×Tc)):Option (List Tc):=lim fun k=>run E k 92 x0
noncomputable def zft [Dfr] (y0:List (Tc×Tc)) (y3:List Tc) (y4:Int):Option (Nat×List Tc):=lim fun k=>lp E 92 0 k k (y0,y3,y4)
noncomputable def zfv [Dfr] (x0:List Nd):Option (List (Tc×Tc)):=lim fun k=>run E k 93 x0
noncomputable def qhe [Dfr] (x0:Int) (x1 x2:List Tc):Option (List Tc):=lim fun k=>run E k 94 (x0,x1,x2)
noncomputable def zir [Dfr] (y0:Int) (y1 y2 y7:List Tc) (y8 y9:Int):Option (Nat×(Int×List Tc×List Tc×List Tc×Int)):=lim fun k=>lp E 94 2 k k (y0,y1,y2,y7,y8,y9)
noncomputable def zsl [Dfr] (y0:Int) (y1 y2 y7:List Tc) (y8:Int):Option (Nat×List Tc):=lim fun k=>lp E 94 0 k k (y0,y1,y2,y7,y8)
noncomputable def zoi [Dfr] (x0:List Nd):Option (List Int):=lim fun k=>run E k 95 x0
noncomputable def qbs [Dfr] (x0:List Nd) (x1:Int):Option (Bool):=lim fun k=>run E k 96 (x0,x1)
noncomputable def zmd [Dfr] (y5:List (List Nd)) (y7:Bool) (y8:Int):Option (Nat×Bool):=lim fun k=>lp E 96 0 k k (y5,y7,y8)
noncomputable def zxh [Dfr] (x0:List Nd):Option (Int):=lim fun k=>run E k 97 x0
noncomputable def qer [Dfr] (y0:List Nd) (y2 y3:Int):Option (Nat×Int):=lim fun k=>lp E 97 0 k k (y0,y2,y3)
noncomputable def zbi [Dfr] (x0:List Nd):Option (List Nd):=lim fun k=>run E k 98 x0
noncomputable def qrk [Dfr] (x0:List Nd) (x1:Int):Option (Bool):=lim fun k=>run E k 99 (x0,x1)
noncomputable def zwa [Dfr] (x0:List Nd) (x1:Int):Option (Bool):=lim fun k=>run E k 100 (x0,x1)
noncomputable def zxw [Dfr] (x0:Int) (x1:List Nd):Option (Bool):=lim fun k=>run E k 101 (x0,x1)
noncomputable def zgi [Dfr] (x0:List Int) (x1:FnV):Option (Bool):=lim fun k=>run E k 102 (x0,x1)
noncomputable def qhs [Dfr] (x0:List Nd) (x1:Int):Option (List Int):=lim fun k=>run E k 103 (x0,x1)
noncomputable def zjf [Dfr] (x0:Int) (x1:List Nd) (x2:Int):Option (Bool):=lim fun k=>run E k 104 (x0,x1,x2)
noncomputable def qny [Dfr] (x0:List Nd) (x1 x2:Int):Option (Int):=lim fun k=>run E k 105 (x0,x1,x2)
noncomputable def qfk [Dfr] (y2 y6:Int) (y16:List (List Nd)) (y17 y18:Int):Option (Nat×Int):=lim fun k=>lp E 105 0 k k (y2,y6,y16,y17,y18)
noncomputable def qsj [Dfr] (x0:Nd):Option (Int):=lim fun k=>run E k 106 x0
noncomputable def zur [Dfr] (x0:List Int) (x1:Int):Option (Int):=lim fun k=>run E k 107 (x0,x1)
noncomputable def zgb [Dfr] (y0:List Int) (y1 y4:Int) (y7 y8:Int):Option (Nat×Int):=lim fun k=>lp E 107 0 k k (y0,y1,y4,y7,y8)
noncomputable def qfn [Dfr] (x0:List Int):Option (Int):=lim fun k=>run E k 108 x0
noncomputable def zuh [Dfr] (y2 y3:Int) (y6:List Int) (y7 y8:Int):Option (Nat×(Int×Int)):=lim fun k=>lp E 108 0 k k (y2,y3,y6,y7,y8)
noncomputable def zfd [Dfr] (x0 x1:List ByteArray):Option (Int):=lim fun k=>run E k 109 (x0,x1)
noncomputable def zds [Dfr] (y0 y1:List ByteArray) (y4:Int) (y9:List ByteArray) (y10 y11:Int):Option (Nat×(List ByteArray×List ByteArray×Int)):=lim fun k=>lp E 109 0 k k (y0,y1,y4,y9,y10,y11)
noncomputable def zpi [Dfr] (x0 x1:Int):Option (Int):=lim fun k=>run E k 110 (x0,x1)
noncomputable def zhl [Dfr] (x0:List Tc) (x1:FnV):Option (Int):=lim fun k=>run E k 111 (x0,x1)
noncomputable def zbt [Dfr] (y0:List Tc) (y1:FnV) (y4 y7 y8:Int):Option (Nat×Int):=lim fun k=>lp E 111 0 k k (y0,y1,y4,y7,y8)
noncomputable def zbq [Dfr] (x0:List Nd):Option (List Nd):=lim fun k=>run E k 114 x0
noncomputable def zha [Dfr] (x0:List Nd):Option (List (List Nd)):=lim fun k=>run E k 115 x0
noncomputable def qeh [Dfr] (y0:List Nd) (y3:List (List Nd)) (y4 y13 y14:Int):Option (Nat×List (List Nd)):=lim fun k=>lp E 115 0 k k (y0,y3,y4,y13,y14)
noncomputable def zng [Dfr] (x0:Int):Option (Int):=lim fun k=>run E k 124 x0
noncomputable def qys [Dfr] (x0:Int):Option (Bool):=lim fun k=>run E k 125 x0
noncomputable def zfp [Dfr] (x0:List Mv) (x1:Mv):Option (Bool):=lim fun k=>run E k 127 (x0,x1)
noncomputable def zly [Dfr] (x0:List Nd):Option (Int):=lim fun k=>run E k 128 x0
theorem ydp [Dfr] (x0:List Nd):zbs (fun k=>run E k 128 x0) (zly x0):=.run _ _
noncomputable def zww [Dfr] (y2 y3:Int) (y7:List Nd) (y8 y9:Int):Option (Nat×Int):=lim fun k=>lp E 128 0 k k (y2,y3,y7,y8,y9)
noncomputable def zwi [Dfr] (x0 x1 x2:List Nd):Option (List Nd):=lim fun k=>run E k 129 (x0,x1,x2)
noncomputable def qgg [Dfr] (x0 x1:Int):Option (List Nd):=lim fun k=>run E k 130 (x0,x1)
noncomputable def zbr [Dfr] (x0:Nd) (x1:List (List Nd)):Option (List Nd):=lim fun k=>run E k 131 (x0,x1)
noncomputable def zqm [Dfr] (x0:List Nd):Option (Int):=lim fun k=>run E k 132 x0
noncomputable def zbd [Dfr] (x0:Nd) (x1 x2:List Nd):Option (List Nd):=lim fun k=>run E k 133 (x0,x1,x2)
noncomputable def zhp [Dfr] (x0:Nd) (x1:List Nd):Option (List Nd):=lim fun k=>run E k 134 (x0,x1)
noncomputable def zgj [Dfr] (x0 x1:Int):Option (List Nd):=lim fun k=>run E k 135 (x0,x1)
noncomputable def zqt [Dfr] (x0:Int):Option (Int):=lim fun k=>run E k 136 x0
noncomputable def qyo [Dfr] (x0:List Nd):Option (Int):=lim fun k=>run E k 137 x0
noncomputable def qzg [Dfr] (x0 x1:List Nd):Option (Bool):=lim fun k=>run E k 138 (x0,x1)
noncomputable def zin [Dfr] (x0:List (List ByteArray)):Option (List ByteArray):=lim fun k=>run E k 142 x0
noncomputable def zeg [Dfr] (y0:List (List ByteArray)) (y3:Int) (y9:List (List ByteArray)) (y10 y11:Int):Option (Nat×(List (List ByteArray)×Int)):=lim fun k=>lp E 142 0 k k (y0,y3,y9,y10,y11)
noncomputable def zef [Dfr] (y6:List ByteArray) (y25:List (List ByteArray)) (y26 y27:Int):Option (Nat×List ByteArray):=lim fun k=>lp E 142 2 k k (y6,y25,y26,y27)
noncomputable def qev [Dfr] (x0:List Nd) (x1:List Int):Option (Int):=lim fun k=>run E k 143 (x0,x1)
noncomputable def zkl [Dfr] (y0:List Nd) (y1:List Int) (y5 y6:Int) (y7:Bool) (y8:Int):Option (Nat×(List Nd×List Int×Int×Int×Bool)):=lim fun k=>lp E 143 2 k k (y0,y1,y5,y6,y7,y8)
noncomputable def zkm [Dfr] (y0:List Nd) (y1:List Int) (y5 y6:Int):Option (Nat×Int):=lim fun k=>lp E 143 0 k k (y0,y1,y5,y6)
noncomputable def qew [Dfr] (x0 x1:List Tc):Option (List Tc):=lim fun k=>run E k 144 (x0,x1)
noncomputable def zba [Dfr] (y0 y1 y5:List Tc) (y6 y7:Int):Option (Nat×List Tc):=lim fun k=>lp E 144 0 k k (y0,y1,y5,y6,y7)
noncomputable def zol [Dfr] (x0 x1:Tc):Option (Tc):=lim fun k=>run E k 145 (x0,x1)
noncomputable def zis [Dfr] (x0:List (Tc×Tc)):Option (List (Tc×Tc)):=lim fun k=>run E k 146 x0
noncomputable def zxf [Dfr] (x0 x1:List Tc):Option (List (Tc×Tc)):=lim fun k=>run E k 147 (x0,x1)
noncomputable def znu [Dfr] (y0 y1:List Tc) (y5:List (Tc×Tc)) (y6 y7:Int):Option (Nat×(List Tc×List Tc×(List (Tc×Tc))×Int)):=lim fun k=>lp E 147 2 k k (y0,y1,y5,y6,y7)
noncomputable def zki [Dfr] (y0 y1:List Tc) (y5:List (Tc×Tc)) (y6:Int):Option (Nat×(List (Tc×Tc))):=lim fun k=>lp E 147 0 k k (y0,y1,y5,y6)
noncomputable def qqq [Dfr] (x0 x1:List (Tc×Tc)):Option (List (Tc×Tc)):=lim fun k=>run E k 148 (x0,x1)
noncomputable def zsm [Dfr] (y0 y1 y5:List (Tc×Tc)) (y6 y7:Int):Option (Nat×((List (Tc×Tc))×(List (Tc×Tc))×(List (Tc×Tc))×Int)):=lim fun k=>lp E 148 2 k k (y0,y1,y5,y6,y7)
noncomputable def zok [Dfr] (y0 y1 y5:List (Tc×Tc)) (y6:Int):Option (Nat×(List (Tc×Tc))):=lim fun k=>lp E 148 0 k k (y0,y1,y5,y6)
noncomputable def qqr [Dfr] (x0 x1:List (Tc×Tc)):Option (List (Tc×Tc)):=lim fun k=>run E k 149 (x0,x1)
noncomputable def zsn [Dfr] (y0 y1 y5:List (Tc×Tc)) (y6 y7:Int) (y8 y9:List Tc) (y10 y11:Int):Option (Nat×((List (Tc×Tc))×(List (Tc×Tc))×(List (Tc×Tc))×Int×Int×List Tc×List Tc×Int)):=lim fun k=>lp E 149 6 k k (y0,y1,y5,y6,y7,y8,y9,y10,y11)
noncomputable def zso [Dfr] (y0 y1 y5:List (Tc×Tc)) (y6 y7:Int) (y8 y9:List Tc) (y10:Int):Option (Nat×((List (Tc×Tc))×(List (Tc×Tc))×(List (Tc×Tc))×Int×Int)):=lim fun k=>lp E 149 4 k k (y0,y1,y5,y6,y7,y8,y9,y10)
noncomputable def zsp [Dfr] (y0 y1 y5:List (Tc×Tc)) (y6 y7:Int):Option (Nat×((List (Tc×Tc))×(List (Tc×Tc))×(List (Tc×Tc))×Int)):=lim fun k=>lp E 149 2 k k (y0,y1,y5,y6,y7)
noncomputable def zsq [Dfr] (y0 y1 y5:List (Tc×Tc)) (y6:Int):Option (Nat×(List (Tc×Tc))):=lim fun k=>lp E 149 0 k k (y0,y1,y5,y6)
noncomputable def qen [Dfr] (x0:List (Tc×Tc)) (x1:List Tc):Option (List (Tc×Tc)):=lim fun k=>run E k 150 (x0,x1)
noncomputable def zns [Dfr] (y0:List (Tc×Tc)) (y1:List Tc) (y5:List (Tc×Tc)) (y6 y7:Int):Option (Nat×((List (Tc×Tc))×List Tc×(List (Tc×Tc))×Int)):=lim fun k=>lp E 150 2 k k (y0,y1,y5,y6,y7)
noncomputable def znt [Dfr] (y0:List (Tc×Tc)) (y1:List Tc) (y5:List (Tc×Tc)) (y6:Int):Option (Nat×(List (Tc×Tc))):=lim fun k=>lp E 150 0 k k (y0,y1,y5,y6)
noncomputable def qqs [Dfr] (x0:Int) (x1:List Tc):Option (List (Tc×Tc)):=lim fun k=>run E k 151 (x0,x1)
noncomputable def zsr [Dfr] (y0:Int) (y1:List Tc) (y5:List (Tc×Tc)) (y6:Int):Option (Nat×(List (Tc×Tc))):=lim fun k=>lp E 151 0 k k (y0,y1,y5,y6)
noncomputable def zqn [Dfr] (x0 x1:Tc):Option (Tc):=lim fun k=>run E k 152 (x0,x1)
noncomputable def qai [Dfr] (x0 x1:Tc):Option (List Tc):=lim fun k=>run E k 153 (x0,x1)
noncomputable def zsu [Dfr] (y2 y3:Tc) (y5:List Tc) (y6:List (List ByteArray)) (y7:Int):Option (Nat×List Tc):=lim fun k=>lp E 153 0 k k (y2,y3,y5,y6,y7)
noncomputable def zky [Dfr] (x0:List Nd) (x1:Int):Option (List Int):=lim fun k=>run E k 154 (x0,x1)
noncomputable def zcw [Dfr] (y5:List Int) (y6:Int) (y7:List (List Nd)) (y8 y9:Int):Option (Nat×List Int):=lim fun k=>lp E 154 0 k k (y5,y6,y7,y8,y9)
noncomputable def qzs [Dfr] (x0:List Int) (x1:Int):Option (Bool):=lim fun k=>run E k 155 (x0,x1)
noncomputable def zxa [Dfr] (y0:List Int) (y1:Int) (y4:Bool) (y5:Int):Option (Nat×Bool):=lim fun k=>lp E 155 0 k k (y0,y1,y4,y5)
noncomputable def qbr [Dfr] (x0:List Nd) (x1 x2:Int):Option (List (List Nd)×Bool):=lim fun k=>run E k 156 (x0,x1,x2)
noncomputable def zmc [Dfr] (y0:List Nd) (y2:Int) (y8:List (List Nd)) (y9 y10:Int):Option (Nat×(List Nd×Int×List (List Nd)×Int×Int)):=lim fun k=>lp E 156 0 k k (y0,y2,y8,y9,y10)
noncomputable def zsj [Dfr] (x0:List Nd):Option (Bool):=lim fun k=>run E k 157 x0
noncomputable def qes [Dfr] (x0:List Nd):Option (Bool):=lim fun k=>run E k 158 x0
noncomputable def znv [Dfr] (y0:List Nd) (y2:Bool) (y3:Int):Option (Nat×(List Nd×Bool)):=lim fun k=>lp E 158 0 k k (y0,y2,y3)
noncomputable def zal [Dfr] (x0:List Nd) (x1:Int):Option (Bool):=lim fun k=>run E k 159 (x0,x1)
noncomputable def zqk [Dfr] (x0:Int):Option (List Nd):=lim fun k=>run E k 160 x0
noncomputable def zfs [Dfr] (x0:Int) (x1 x2:List Nd):Option (List Nd):=lim fun k=>run E k 161 (x0,x1,x2)
noncomputable def qqn [Dfr] (x0 x1:List Nd):Option (List Nd):=lim fun k=>run E k 162 (x0,x1)
noncomputable def qqo [Dfr] (x0:List Nd):Option (List Nd):=lim fun k=>run E k 163 x0
noncomputable def qfl [Dfr] (x0:List Nd) (x1:Int):Option (List (List Nd)×Bool):=lim fun k=>run E k 164 (x0,x1)
noncomputable def zko [Dfr] (y0:List Nd) (y1:Int) (y4:List (List Nd)) (y5:Bool) (y19:List Int) (y20 y21:Int):Option (Nat×(List (List Nd)×Bool)):=lim fun k=>lp E 164 0 k k (y0,y1,y4,y5,y19,y20,y21)
noncomputable def zdw [Dfr] (x0:List (List Nd)) (x1:FnV):Option (Bool):=lim fun k=>run E k 165 (x0,x1)
noncomputable def zrt [Dfr] (x0:List Nd):Option (Bool):=lim fun k=>run E k 166 x0
noncomputable def zod [Dfr] (x0:List Int) (x1:FnV):Option (Int):=lim fun k=>run E k 167 (x0,x1)
noncomputable def zee [Dfr] (y0:List Int) (y1:FnV) (y4 y7 y8:Int):Option (Nat×Int):=lim fun k=>lp E 167 0 k k (y0,y1,y4,y7,y8)
noncomputable def zlc [Dfr] (x0 x1:ByteArray):Option (Int):=lim fun k=>run E k 169 (x0,x1)
noncomputable def zug [Dfr] (x0:Int):Option (Bool):=lim fun k=>run E k 170 x0
noncomputable def znb [Dfr] (x0:Int):Option (List Nd):=lim fun k=>run E k 171 x0
noncomputable def zwr [Dfr] (x0:Nd) (x1 x2:List Nd) (x3:Int):Option (List Nd):=lim fun k=>run E k 172 (x0,x1,x2,x3)
noncomputable def zsg [Dfr] (x0 x1:List Nd):Option (List Nd):=lim fun k=>run E k 173 (x0,x1)
noncomputable def zll [Dfr] (x0:Int) (x1:List Nd):Option (List Nd):=lim fun k=>run E k 174 (x0,x1)
noncomputable def qjj [Dfr] (x0:Nd) (x1 x2:List Nd):Option (List Nd):=lim fun k=>run E k 175 (x0,x1,x2)
noncomputable def qld [Dfr] (x0:Nd) (x1:List Nd):Option (List Nd):=lim fun k=>run E k 176 (x0,x1)
noncomputable def zlz [Dfr] (x0:Int):Option (Int):=lim fun k=>run E k 177 x0
theorem qzh [Dfr] (x0:Int):zbs (fun k=>run E k 177 x0) (zlz x0):=.run _ _
noncomputable def qpo [Dfr] (x0 x1:Int):Option (Int):=lim fun k=>run E k 179 (x0,x1)
noncomputable def zmt [Dfr] (x0:List Mv) (x1:Mv):Option (Int):=lim fun k=>run E k 191 (x0,x1)
noncomputable def zdq [Dfr] (y0:List Mv) (y3:Mv) (y4 y7 y8:Int):Option (Nat×Int):=lim fun k=>lp E 191 0 k k (y0,y3,y4,y7,y8)
noncomputable def zgz [Dfr] (x0:List (List Nd)):Option (List Nd):=lim fun k=>run E k 192 x0
noncomputable def zdk [Dfr] (y0:List (List Nd)) (y3:Int) (y9:List (List Nd)) (y10 y11:Int):Option (Nat×(List (List Nd)×Int)):=lim fun k=>lp E 192 0 k k (y0,y3,y9,y10,y11)
noncomputable def zdj [Dfr] (y6:List Nd) (y25:List (List Nd)) (y26 y27:Int):Option (Nat×List Nd):=lim fun k=>lp E 192 2 k k (y6,y25,y26,y27)
noncomputable def qqf [Dfr] (x0:List Nd):Option (Bool):=lim fun k=>run E k 193 x0
noncomputable def zez [Dfr] (x0:List Nd):Option (Int):=lim fun k=>run E k 194 x0
noncomputable def zlg [Dfr] (y0:List Nd) (y2:Int) (y3:List Int) (y8:List (List Nd)) (y9 y10:Int):Option (Nat×(List Nd×Int×List Int)):=lim fun k=>lp E 194 0 k k (y0,y2,y3,y8,y9,y10)
noncomputable def zhx [Dfr] (x0 x1:List Nd):Option (Bool):=lim fun k=>run E k 195 (x0,x1)
noncomputable def zdr [Dfr] (y0 y1:List Nd) (y4:Bool) (y12 y13:Int):Option (Nat×Bool):=lim fun k=>lp E 195 0 k k (y0,y1,y4,y12,y13)
noncomputable def zku [Dfr] (x0:Unit) (x1:Int):Option (List ByteArray):=lim fun k=>run E k 207 (x0,x1)
noncomputable def qeo [Dfr] (x0 x1:List (Tc×Tc)):Option (List (Tc×Tc)):=lim fun k=>run E k 208 (x0,x1)
noncomputable def zci [Dfr] (y0 y1 y5:List (Tc×Tc)) (y6 y7:Int):Option (Nat×((List (Tc×Tc))×(List (Tc×Tc))×(List (Tc×Tc))×Int×Int)):=lim fun k=>lp E 208 0 k k (y0,y1,y5,y6,y7)
noncomputable def zrh [Dfr] (x0 x1:List ByteArray):Option (List (List ByteArray)):=lim fun k=>run E k 209 (x0,x1)
noncomputable def qbt [Dfr] (x0 x1:Int):Option (Int):=lim fun k=>run E k 210 (x0,x1)
noncomputable def qzr [Dfr] (x0 x1:Int):Option (Bool):=lim fun k=>run E k 211 (x0,x1)
noncomputable def zlm [Dfr] (x0:List Nd):Option (Bool):=lim fun k=>run E k 212 x0
noncomputable def qet [Dfr] (x0:Nd):Option (Bool):=lim fun k=>run E k 213 x0
noncomputable def znw [Dfr] (y1:Nd) (y2:Bool) (y3:Int):Option (Nat×(Nd×Bool)):=lim fun k=>lp E 213 0 k k (y1,y2,y3)
noncomputable def znf [Dfr] (x0:List Nd) (x1:List (List Nd)):Option (Bool):=lim fun k=>run E k 214 (x0,x1)
noncomputable def zln [Dfr] (x0:List Nd) (x1:List (List Nd)):Option (Bool):=lim fun k=>run E k 215 (x0,x1)
noncomputable def zmh [Dfr] (x0:List Nd) (x1:List (List Nd)):Option (Bool):=lim fun k=>run E k 216 (x0,x1)
noncomputable def zkj [Dfr] (x0:List Nd) (x1:List (List Nd)):Option (Bool):=lim fun k=>run E k 217 (x0,x1)
noncomputable def zax [Dfr] (x0 x1:Int):Option (Nd):=lim fun k=>run E k 218 (x0,x1)
noncomputable def zme [Dfr] (x0:Int) (x1:List Nd):Option (List Nd):=lim fun k=>run E k 219 (x0,x1)
noncomputable def zij [Dfr] (x0:List (List Nd)) (x1:FnV):Option (Int):=lim fun k=>run E k 221 (x0,x1)
noncomputable def zce [Dfr] (y0:List (List Nd)) (y1:FnV) (y4 y7 y8:Int):Option (Nat×Int):=lim fun k=>lp E 221 0 k k (y0,y1,y4,y7,y8)
noncomputable def zje [Dfr] (x0:List Nd):Option (Bool):=lim fun k=>run E k 222 x0
noncomputable def qhr [Dfr] (x0:List Nd):Option (Bool):=lim fun k=>run E k 224 x0
theorem yez [Dfr] (x0:List Nd):zbs (fun k=>run E k 224 x0) (qhr x0):=.run _ _
noncomputable def znm [Dfr] (x0:ByteArray):Option (Bool):=lim fun k=>run E k 225 x0
noncomputable def zjz [Dfr] (x0 x1:List ByteArray):Option (Bool):=lim fun k=>run E k 229 (x0,x1)
noncomputable def zes [Dfr] (y0 y1:List ByteArray) (y4:Bool) (y12 y13:Int):Option (Nat×Bool):=lim fun k=>lp E 229 0 k k (y0,y1,y4,y12,y13)
noncomputable def zik [Dfr] (x0:Unit) (x1:Int):Option (List Nd):=lim fun k=>run E k 236 (x0,x1)
noncomputable def qeg [Dfr] (x0:Nd):Option (Bool):=lim fun k=>run E k 237 x0
noncomputable def qqg [Dfr] (x0:Nd):Option (Bool):=lim fun k=>run E k 238 x0
noncomputable def zel [Dfr] (x0:List Nd) (x1:FnV):Option (Bool):=lim fun k=>run E k 239 (x0,x1)
noncomputable def qgk [Dfr] (x0 x1:Int):Option (Int):=lim fun k=>run E k 240 (x0,x1)
noncomputable def zqu [Dfr] (x0 x1 x2:Int):Option (Int):=lim fun k=>run E k 241 (x0,x1,x2)
noncomputable def zxg [Dfr] (x0 x1:Tc×Tc):Option (Int):=lim fun k=>run E k 248 (x0,x1)
noncomputable def zxm [Dfr] (x0:ByteArray) (x1:List (List ByteArray)):Option (List (List ByteArray)):=lim fun k=>run E k 249 (x0,x1)
noncomputable def znx [Dfr] (y0:ByteArray) (y1 y5:List (List ByteArray)) (y6:Int):Option (Nat×List (List ByteArray)):=lim fun k=>lp E 249 0 k k (y0,y1,y5,y6)
noncomputable def qno [Dfr] (x0:Int):Option (Bool):=lim fun k=>run E k 250 x0
noncomputable def qjp [Dfr] (x0:ByteArray):Option (Bool):=lim fun k=>run E k 251 x0
noncomputable def qqa [Dfr] (x0:ByteArray):Option (Bool):=lim fun k=>run E k 254 x0
noncomputable def zjv [Dfr] (x0:List Nd) (x1:FnV):Option (Int):=lim fun k=>run E k 255 (x0,x1)
noncomputable def zcm [Dfr] (y0:List Nd) (y1:FnV) (y4 y7 y8:Int):Option (Nat×Int):=lim fun k=>lp E 255 0 k k (y0,y1,y4,y7,y8)
noncomputable def zyv [Dfr] (x0 x1:ByteArray):Option (ByteArray):=lim fun k=>run E k 277 (x0,x1)
noncomputable def zgy [Dfr] (x0:List ByteArray) (x1:ByteArray):Option (Bool):=lim fun k=>run E k 278 (x0,x1)
noncomputable def zpk [Dfr] (x0:List ByteArray) (x1:ByteArray):Option (Int):=lim fun k=>run E k 296 (x0,x1)
noncomputable def zeq [Dfr] (y0:List ByteArray) (y1:ByteArray) (y4 y7 y8:Int):Option (Nat×Int):=lim fun k=>lp E 296 0 k k (y0,y1,y4,y7,y8)
end Go.Proofs.YtjolkdjkhekbnaaGreatDoor.Sv
