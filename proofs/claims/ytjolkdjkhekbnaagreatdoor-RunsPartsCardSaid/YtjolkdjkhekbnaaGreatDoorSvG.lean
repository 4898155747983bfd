/- The functions of the seat by name, as the evaluator tells them: what each tells in the end, and its equation, checked by the kernel. Written by a program (gen.py, emit3.py). -/
import Derived.Test.YtjolkdjkhekbnaaGreatDoorSvE
set_option linter.unusedVariables false
set_option linter.unusedSimpArgs false
namespace Go.Proofs.YtjolkdjkhekbnaaGreatDoor.Sv
open Go Go.Sv Go.Proofs
set_option maxRecDepth 100000
theorem _root_.Go.Sv.zck.r [Dfr] (f:Nat) {x:Tup (E.sig f).args}:zck (fun k=>Go.Sv.run E k f x) (lim fun k=>Go.Sv.run E k f x):=.run f x
theorem _root_.Go.Sv.zck.l [Dfr] (f b:Nat) {x:Tup (E.hs f b).ks}:zck (fun k=>Go.Sv.lp E f b k k x) (lim fun k=>Go.Sv.lp E f b k k x):=.lp f b x
noncomputable def qfe [Dfr] (x0:List Nd) (x1:List Int):Option (Bool):=lim fun k=>run E k 3 (x0,x1)
noncomputable def qjj [Dfr] (x0:List Nd) (x1:List Int):Option (Bool):=lim fun k=>run E k 6 (x0,x1)
noncomputable def qcl [Dfr] (x0:List Nd) (x1 x2:List Int):Option (Bool):=lim fun k=>run E k 7 (x0,x1,x2)
noncomputable def qck [Dfr] (x0:List Nd):Option (Bool):=lim fun k=>run E k 9 x0
noncomputable def zxo [Dfr] (x0:List Nd):Option (Bool):=lim fun k=>run E k 10 x0
noncomputable def zcu [Dfr]:Option (Bool):=lim fun k=>run E k 11 ()
noncomputable def zkp [Dfr] (x0:List Nd) (x1:List Int):Option (List Nd×Tc):=lim fun k=>run E k 12 (x0,x1)
noncomputable def zqc [Dfr] (y4 y5:List Nd×Tc) (y16:List Int) (y17 y18:Int):Option (Nat×((List Nd×Tc)×List Nd×Tc)):=lim fun k=>lp E 12 0 k k (y4,y5,y16,y17,y18)
noncomputable def qky [Dfr] (x0:List Nd) (x1:List Int):Option (List Nd×Tc):=lim fun k=>run E k 13 (x0,x1)
noncomputable def zny [Dfr] (y1:List Int) (y4 y5:List Nd×Tc) (y6:Int):Option (Nat×((List Nd×Tc)×List Nd×Tc)):=lim fun k=>lp E 13 0 k k (y1,y4,y5,y6)
noncomputable def zsh [Dfr] (x0:List Nd×Tc):Option (Tc×Bool):=lim fun k=>run E k 14 x0
noncomputable def qgj [Dfr] (x0:List Nd×Tc):Option (Tc×Bool):=lim fun k=>run E k 15 x0
noncomputable def qlq [Dfr] (x0 x1:List Nd×Tc):Option (Bool):=lim fun k=>run E k 16 (x0,x1)
noncomputable def zrz [Dfr] (x0 x1:Tc):Option (Int):=lim fun k=>run E k 17 (x0,x1)
noncomputable def zsl [Dfr] (x0 x1:List Nd):Option (Bool):=lim fun k=>run E k 18 (x0,x1)
noncomputable def zrx [Dfr] (y0 y1:List Nd) (y4:Bool) (y5:Int):Option (Nat×Bool):=lim fun k=>lp E 18 0 k k (y0,y1,y4,y5)
noncomputable def qcj [Dfr] (x0:List Nd):Option (Bool):=lim fun k=>run E k 19 x0
noncomputable def zyr [Dfr] (x0:List Nd):Option (List Tc×Int):=lim fun k=>run E k 20 x0
noncomputable def qld [Dfr] (x0 x1:List Tc):Option (Bool):=lim fun k=>run E k 22 (x0,x1)
noncomputable def zry [Dfr] (y0 y1:List Tc) (y4:Bool) (y5:Int):Option (Nat×Bool):=lim fun k=>lp E 22 0 k k (y0,y1,y4,y5)
noncomputable def qdy [Dfr] (x0:List Tc):Option (List Tc):=lim fun k=>run E k 23 x0
noncomputable def zsd [Dfr] (y3 y6:List Tc) (y7 y8:Int):Option (Nat×List Tc):=lim fun k=>lp E 23 0 k k (y3,y6,y7,y8)
noncomputable def qrh [Dfr] (x0:List Nd) (x1:Tc):Option (List Int×Bool):=lim fun k=>run E k 24 (x0,x1)
noncomputable def qdl [Dfr] (x0 x1:List Int):Option (Bool):=lim fun k=>run E k 26 (x0,x1)
noncomputable def zrv [Dfr] (y0 y1:List Int) (y4:Bool) (y5:Int):Option (Nat×Bool):=lim fun k=>lp E 26 0 k k (y0,y1,y4,y5)
noncomputable def qgk [Dfr] (x0:List Nd):Option (List Nd):=lim fun k=>run E k 27 x0
noncomputable def zfr [Dfr] (x0:List Nd):Option (List Mv):=lim fun k=>run E k 28 x0
theorem qob [Dfr] (x0:List Nd):zck (fun k=>run E k 28 x0) (zfr x0):=.run _ _
noncomputable def zgp [Dfr] (y0:List Nd) (y3:List (Int×List (Int×Nat))) (y4:List Mv) (y6:Int) (y11:List Int) (y12 y13:Int) (y23:List (Int×Nat)) (y24 y25:Int):Option (Nat×(List Nd×(List (Int×List (Int×Nat)))×List Mv×List Int×Int×Int)):=lim fun k=>lp E 28 2 k k (y0,y3,y4,y6,y11,y12,y13,y23,y24,y25)
noncomputable def zoe [Dfr] (y0:List Nd) (y3:List (Int×List (Int×Nat))) (y4:List Mv) (y11:List Int) (y12 y13:Int):Option (Nat×List Mv):=lim fun k=>lp E 28 0 k k (y0,y3,y4,y11,y12,y13)
noncomputable def zyz [Dfr] (x0 x1:List ByteArray):Option (Bool):=lim fun k=>run E k 29 (x0,x1)
noncomputable def zpm [Dfr] (y0 y1:List ByteArray) (y4:Bool) (y5:Int):Option (Nat×Bool):=lim fun k=>lp E 29 0 k k (y0,y1,y4,y5)
noncomputable def qsa [Dfr] (x0 x1:List ByteArray):Option (List ByteArray):=lim fun k=>run E k 30 (x0,x1)
noncomputable def qbp [Dfr] (x0:List Nd) (x1:List Int):Option (Int):=lim fun k=>run E k 31 (x0,x1)
noncomputable def zqe [Dfr] (y1:List Int) (y5:Int) (y8:List Nd) (y9 y10:Int):Option (Nat×Int):=lim fun k=>lp E 31 0 k k (y1,y5,y8,y9,y10)
noncomputable def zrk [Dfr] (x0 x1:Tc):Option (Int):=lim fun k=>run E k 32 (x0,x1)
noncomputable def zwj [Dfr] (x0:List Tc) (x1:Tc):Option (Bool):=lim fun k=>run E k 33 (x0,x1)
theorem qzh [Dfr] (x0:List Tc) (x1:Tc):zck (fun k=>run E k 33 (x0,x1)) (zwj x0 x1):=.run _ _
noncomputable def qbh [Dfr] (x0:List Nd):Option (List Nd):=lim fun k=>run E k 34 x0
noncomputable def zxm [Dfr] (x0:List Nd):Option (Bool):=lim fun k=>run E k 35 x0
noncomputable def qln [Dfr] (x0:List Nd):Option (List Tc×Int):=lim fun k=>run E k 36 x0
noncomputable def zzd [Dfr] (x0:List Nd):Option (Int):=lim fun k=>run E k 37 x0
noncomputable def qko [Dfr] (x0:Tc):Option (ByteArray):=lim fun k=>run E k 38 x0
theorem quz [Dfr] (x0:Tc):zck (fun k=>run E k 38 x0) (qko x0):=.run _ _
noncomputable def zez [Dfr] (x0:List Nd):Option (List Nd):=lim fun k=>run E k 39 x0
noncomputable def qsr [Dfr] (x0:List Nd) (x1:Int):Option (Mv×Int):=lim fun k=>run E k 40 (x0,x1)
noncomputable def zsq [Dfr] (x0:List Nd) (x1:Mv):Option (List Nd×ByteArray×Int):=lim fun k=>run E k 41 (x0,x1)
theorem qzv [Dfr] (x0:List Nd) (x1:Mv):zck (fun k=>run E k 41 (x0,x1)) (zsq x0 x1):=.run _ _
noncomputable def qla [Dfr] (x0:List Nd) (x1:Int):Option (Mv×Int):=lim fun k=>run E k 42 (x0,x1)
noncomputable def qkz [Dfr] (x0:List Nd) (x1:Mv):Option (List Nd×ByteArray×Int):=lim fun k=>run E k 43 (x0,x1)
noncomputable def zfp [Dfr] (x0:List Nd):Option (Int×Bool):=lim fun k=>run E k 44 x0
theorem qnw [Dfr] (x0:List Nd):zck (fun k=>run E k 44 x0) (zfp x0):=.run _ _
noncomputable def zhw [Dfr] (x0:List ByteArray):Option (List ByteArray):=lim fun k=>run E k 45 x0
noncomputable def qrz [Dfr] (x0 x1:List ByteArray):Option (Int):=lim fun k=>run E k 46 (x0,x1)
noncomputable def zup [Dfr] (y0 y1:List ByteArray) (y4 y5:Int):Option (Nat×(List ByteArray×List ByteArray×Int)):=lim fun k=>lp E 46 0 k k (y0,y1,y4,y5)
noncomputable def qdg [Dfr] (x0:List Nd):Option (Int):=lim fun k=>run E k 47 x0
theorem qvl [Dfr] (x0:List Nd):zck (fun k=>run E k 47 x0) (qdg x0):=.run _ _
noncomputable def zfn [Dfr] (x0:List Tc):Option (List Tc):=lim fun k=>run E k 48 x0
theorem qze [Dfr] (x0:List Tc):zck (fun k=>run E k 48 x0) (zfn x0):=.run _ _
noncomputable def qin [Dfr] (x0:Tc) (x1:ByteArray):Option (Tc×Bool):=lim fun k=>run E k 52 (x0,x1)
theorem yam [Dfr] (x0:Tc) (x1:ByteArray):zck (fun k=>run E k 52 (x0,x1)) (qin x0 x1):=.run _ _
noncomputable def zrs [Dfr] (x0:List Nd):Option (List Mv):=lim fun k=>run E k 55 x0
noncomputable def zgd [Dfr] (y0:List Nd) (y3:List Mv) (y4:List Int) (y5:Int):Option (Nat×List Mv):=lim fun k=>lp E 55 0 k k (y0,y3,y4,y5)
noncomputable def qgl [Dfr] (x0:List Nd):Option (Bool):=lim fun k=>run E k 57 x0
noncomputable def znn [Dfr] (x0:List Nd):Option (List Nd):=lim fun k=>run E k 58 x0
noncomputable def ygv [Dfr]:Option (List (Int×List (Int×Nat))):=lim fun k=>run E k 59 ()
noncomputable def ztp [Dfr] (x0:List Nd):Option (List Int):=lim fun k=>run E k 60 x0
noncomputable def zju [Dfr] (y1:List Nd) (y3:FnV) (y4:List Int) (y11 y12:Int):Option (Nat×List Int):=lim fun k=>lp E 60 0 k k (y1,y3,y4,y11,y12)
noncomputable def zhv [Dfr] (x0:List Int) (x1:Int):Option (Bool):=lim fun k=>run E k 61 (x0,x1)
noncomputable def zfc [Dfr] (x0 x1:Tc):Option (Int):=lim fun k=>run E k 62 (x0,x1)
noncomputable def zev [Dfr] (x0:List Tc) (x1:FnV):Option (Bool):=lim fun k=>run E k 63 (x0,x1)
noncomputable def qfu [Dfr] (x0 x1:Tc):Option (Bool):=lim fun k=>run E k 64 (x0,x1)
noncomputable def qks [Dfr] (x0:List Nd):Option (Bool):=lim fun k=>run E k 65 x0
noncomputable def znw [Dfr] (x0:List Nd):Option (List Nd):=lim fun k=>run E k 66 x0
noncomputable def zjy [Dfr] (x0:List Nd) (x1:Bool) (x2:FnV):Option (List Tc×Int):=lim fun k=>run E k 67 (x0,x1,x2)
noncomputable def zeb [Dfr] (x0:List Nd):Option (List Tc):=lim fun k=>run E k 68 x0
noncomputable def zlk [Dfr] (y4:List Tc) (y93:List (Tc×Tc)) (y94 y95:Int):Option (Nat×List Tc):=lim fun k=>lp E 68 1 k k (y4,y93,y94,y95)
noncomputable def zsj [Dfr] (x0:List Nd) (x1:Int):Option (Int×Int):=lim fun k=>run E k 69 (x0,x1)
noncomputable def zrw [Dfr] (y0:List Nd) (y1 y4:Int) (y5 y6:Int) (y7 y8:Int):Option (Nat×(Int×Int×Int×Int)):=lim fun k=>lp E 69 0 k k (y0,y1,y4,y5,y6,y7,y8)
noncomputable def ykp [Dfr] (x0:List Nd) (x1:Mv):Option (Bool):=lim fun k=>run E k 71 (x0,x1)
noncomputable def qzu [Dfr] (x0:List Nd) (x1:Int) (x2:List Nd):Option (List Nd):=lim fun k=>run E k 72 (x0,x1,x2)
noncomputable def qqf [Dfr] (x0:List Nd) (x1:Int):Option (List Nd):=lim fun k=>run E k 73 (x0,x1)
noncomputable def ybc [Dfr] (x0:List Nd) (x1:Mv):Option (Bool):=lim fun k=>run E k 74 (x0,x1)
noncomputable def zyu [Dfr] (y3:Mv) (y4:Bool) (y5:List Mv) (y6:Int):Option (Nat×Bool):=lim fun k=>lp E 74 0 k k (y3,y4,y5,y6)
noncomputable def qiq [Dfr] (x0:List Nd) (x1:Int) (x2:List Nd):Option (List Nd):=lim fun k=>run E k 75 (x0,x1,x2)
noncomputable def qdj [Dfr] (x0:List Nd) (x1:Int):Option (List Nd):=lim fun k=>run E k 76 (x0,x1)
noncomputable def qkt [Dfr] (x0:List Nd) (x1:Bool):Option (Bool):=lim fun k=>run E k 77 (x0,x1)
noncomputable def zmd [Dfr] (x0:List Nd):Option (Bool):=lim fun k=>run E k 78 x0
noncomputable def zfj [Dfr] (x0:List Tc):Option (List Tc):=lim fun k=>run E k 79 x0
theorem zqq [Dfr] (x0:List Tc):zck (fun k=>run E k 79 x0) (zfj x0):=.run _ _
noncomputable def qfs [Dfr] (x0 x1:Tc):Option (Bool):=lim fun k=>run E k 82 (x0,x1)
noncomputable def zjn [Dfr] (x0 x1:Tc):Option (Tc):=lim fun k=>run E k 85 (x0,x1)
theorem quy [Dfr] (x0 x1:Tc):zck (fun k=>run E k 85 (x0,x1)) (zjn x0 x1):=.run _ _
noncomputable def zru [Dfr] (x0:List Nd):Option (Bool):=lim fun k=>run E k 87 x0
noncomputable def zfd [Dfr] (x0:List Nd):Option (List (List Nd)):=lim fun k=>run E k 89 x0
noncomputable def zzc [Dfr] (y0:List Nd) (y3:List (List Nd)) (y4 y5:Int):Option (Nat×List (List Nd)):=lim fun k=>lp E 89 0 k k (y0,y3,y4,y5)
noncomputable def zqf [Dfr] (x0:List Nd):Option (List Int):=lim fun k=>run E k 95 x0
noncomputable def qdm [Dfr] (x0:List Nd) (x1:Int):Option (Bool):=lim fun k=>run E k 96 (x0,x1)
noncomputable def zoa [Dfr] (y5:List (List Nd)) (y7:Bool) (y8:Int):Option (Nat×Bool):=lim fun k=>lp E 96 0 k k (y5,y7,y8)
noncomputable def qoy [Dfr] (x0:List Nd):Option (Int):=lim fun k=>run E k 97 x0
noncomputable def qgm [Dfr] (y0:List Nd) (y2 y3:Int):Option (Nat×Int):=lim fun k=>lp E 97 0 k k (y0,y2,y3)
noncomputable def zbu [Dfr] (x0:List Nd):Option (List Nd):=lim fun k=>run E k 98 x0
noncomputable def qsq [Dfr] (x0:List Nd) (x1:Int):Option (Bool):=lim fun k=>run E k 99 (x0,x1)
noncomputable def zxq [Dfr] (x0:List Nd) (x1:Int):Option (Bool):=lim fun k=>run E k 100 (x0,x1)
noncomputable def zzt [Dfr] (x0:Int) (x1:List Nd):Option (Bool):=lim fun k=>run E k 101 (x0,x1)
noncomputable def zib [Dfr] (x0:List Int) (x1:FnV):Option (Bool):=lim fun k=>run E k 102 (x0,x1)
noncomputable def qiw [Dfr] (x0:List Nd) (x1:Int):Option (List Int):=lim fun k=>run E k 103 (x0,x1)
noncomputable def zlc [Dfr] (x0:Int) (x1:List Nd) (x2:Int):Option (Bool):=lim fun k=>run E k 104 (x0,x1,x2)
noncomputable def qpi [Dfr] (x0:List Nd) (x1 x2:Int):Option (Int):=lim fun k=>run E k 105 (x0,x1,x2)
noncomputable def qhd [Dfr] (y2 y6:Int) (y16:List (List Nd)) (y17 y18:Int):Option (Nat×Int):=lim fun k=>lp E 105 0 k k (y2,y6,y16,y17,y18)
noncomputable def qtu [Dfr] (x0:Nd):Option (Int):=lim fun k=>run E k 106 x0
noncomputable def zwp [Dfr] (x0:List Int) (x1:Int):Option (Int):=lim fun k=>run E k 107 (x0,x1)
noncomputable def zhu [Dfr] (y0:List Int) (y1 y4:Int) (y7 y8:Int):Option (Nat×Int):=lim fun k=>lp E 107 0 k k (y0,y1,y4,y7,y8)
noncomputable def zzu [Dfr] (x0:List Int):Option (Int):=lim fun k=>run E k 108 x0
noncomputable def zwf [Dfr] (y2 y3:Int) (y6:List Int) (y7 y8:Int):Option (Nat×(Int×Int)):=lim fun k=>lp E 108 0 k k (y2,y3,y6,y7,y8)
noncomputable def zgq [Dfr] (x0 x1:List ByteArray):Option (Int):=lim fun k=>run E k 109 (x0,x1)
noncomputable def zfh [Dfr] (y0 y1:List ByteArray) (y4:Int) (y9:List ByteArray) (y10 y11:Int):Option (Nat×(List ByteArray×List ByteArray×Int)):=lim fun k=>lp E 109 0 k k (y0,y1,y4,y9,y10,y11)
noncomputable def zrd [Dfr] (x0 x1:Int):Option (Int):=lim fun k=>run E k 110 (x0,x1)
noncomputable def zjh [Dfr] (x0:List Tc) (x1:FnV):Option (Int):=lim fun k=>run E k 111 (x0,x1)
noncomputable def zcm [Dfr] (y0:List Tc) (y1:FnV) (y4 y7 y8:Int):Option (Nat×Int):=lim fun k=>lp E 111 0 k k (y0,y1,y4,y7,y8)
noncomputable def qqn [Dfr] (x0:List Nd):Option (Bool):=lim fun k=>run E k 112 x0
noncomputable def qbn [Dfr] (x0:List Nd):Option (Int):=lim fun k=>run E k 113 x0
noncomputable def qbm [Dfr] (y3:Int) (y10:List (List Nd)) (y11 y12:Int):Option (Nat×Int):=lim fun k=>lp E 113 0 k k (y3,y10,y11,y12)
noncomputable def zce [Dfr] (x0:List Nd):Option (List Nd):=lim fun k=>run E k 114 x0
noncomputable def zgr [Dfr] (x0:List Nd):Option (List (List Nd)):=lim fun k=>run E k 115 x0
noncomputable def qge [Dfr] (y0:List Nd) (y3:List (List Nd)) (y4 y13 y14:Int):Option (Nat×List (List Nd)):=lim fun k=>lp E 115 0 k k (y0,y3,y4,y13,y14)
noncomputable def zmj [Dfr] (x0:Int):Option (Tc):=lim fun k=>run E k 116 x0
noncomputable def zaj [Dfr] (x0 x1:List Tc) (x2:FnV):Option (List Tc):=lim fun k=>run E k 117 (x0,x1,x2)
noncomputable def zam [Dfr] (y1:List Tc) (y2:FnV) (y7:List Tc) (y9:Tc) (y12:List Tc) (y13 y14:Int) (y18:List Tc) (y19 y20:Int):Option (Nat×(List Tc×FnV×List Tc×List Tc×Int×Int)):=lim fun k=>lp E 117 2 k k (y1,y2,y7,y9,y12,y13,y14,y18,y19,y20)
noncomputable def zan [Dfr] (y1:List Tc) (y2:FnV) (y7 y12:List Tc) (y13 y14:Int):Option (Nat×List Tc):=lim fun k=>lp E 117 0 k k (y1,y2,y7,y12,y13,y14)
noncomputable def qcc [Dfr] (x0 x1:Tc):Option (List Tc):=lim fun k=>run E k 118 (x0,x1)
noncomputable def zgu [Dfr] (x0:List (List Tc)):Option (List Tc):=lim fun k=>run E k 119 x0
noncomputable def zdv [Dfr] (y0:List (List Tc)) (y3:Int) (y9:List (List Tc)) (y10 y11:Int):Option (Nat×(List (List Tc)×Int)):=lim fun k=>lp E 119 0 k k (y0,y3,y9,y10,y11)
noncomputable def zdu [Dfr] (y6:List Tc) (y25:List (List Tc)) (y26 y27:Int):Option (Nat×List Tc):=lim fun k=>lp E 119 2 k k (y6,y25,y26,y27)
noncomputable def qau [Dfr] (x0 x1:Tc):Option (List Tc):=lim fun k=>run E k 120 (x0,x1)
noncomputable def zua [Dfr] (y5:Int) (y6:List Tc) (y18:List (List ByteArray)) (y19 y20:Int):Option (Nat×List Tc):=lim fun k=>lp E 120 0 k k (y5,y6,y18,y19,y20)
noncomputable def qcb [Dfr] (x0 x1:Tc):Option (List Tc):=lim fun k=>run E k 121 (x0,x1)
noncomputable def zzi [Dfr] (x0 x1:Tc):Option (Tc):=lim fun k=>run E k 122 (x0,x1)
noncomputable def zhm [Dfr] (x0:List Nd):Option (List (Tc×Tc)):=lim fun k=>run E k 123 x0
noncomputable def zps [Dfr] (y0:List Nd) (y4:List (Tc×Tc)) (y90:List Tc) (y91 y92:Int):Option (Nat×(List (Tc×Tc))):=lim fun k=>lp E 123 1 k k (y0,y4,y90,y91,y92)
noncomputable def zpa [Dfr] (x0:Int):Option (Int):=lim fun k=>run E k 124 x0
noncomputable def yae [Dfr] (x0:Int):Option (Bool):=lim fun k=>run E k 125 x0
noncomputable def zhg [Dfr] (x0:List Mv) (x1:Mv):Option (Bool):=lim fun k=>run E k 127 (x0,x1)
noncomputable def zmq [Dfr] (x0:List Nd):Option (Int):=lim fun k=>run E k 128 x0
theorem yff [Dfr] (x0:List Nd):zck (fun k=>run E k 128 x0) (zmq x0):=.run _ _
noncomputable def zys [Dfr] (y2 y3:Int) (y7:List Nd) (y8 y9:Int):Option (Nat×Int):=lim fun k=>lp E 128 0 k k (y2,y3,y7,y8,y9)
noncomputable def zxz [Dfr] (x0 x1 x2:List Nd):Option (List Nd):=lim fun k=>run E k 129 (x0,x1,x2)
noncomputable def qhy [Dfr] (x0 x1:Int):Option (List Nd):=lim fun k=>run E k 130 (x0,x1)
noncomputable def zcf [Dfr] (x0:Nd) (x1:List (List Nd)):Option (List Nd):=lim fun k=>run E k 131 (x0,x1)
noncomputable def zsk [Dfr] (x0:List Nd):Option (Int):=lim fun k=>run E k 132 x0
noncomputable def zbo [Dfr] (x0:Nd) (x1 x2:List Nd):Option (List Nd):=lim fun k=>run E k 133 (x0,x1,x2)
noncomputable def zjl [Dfr] (x0:Nd) (x1:List Nd):Option (List Nd):=lim fun k=>run E k 134 (x0,x1)
noncomputable def zie [Dfr] (x0 x1:Int):Option (List Nd):=lim fun k=>run E k 135 (x0,x1)
noncomputable def zst [Dfr] (x0:Int):Option (Int):=lim fun k=>run E k 136 x0
noncomputable def qqp [Dfr] (x0:List Nd):Option (Int):=lim fun k=>run E k 137 x0
noncomputable def yas [Dfr] (x0 x1:List Nd):Option (Bool):=lim fun k=>run E k 138 (x0,x1)
noncomputable def zkl [Dfr] (x0:List (List ByteArray)):Option (List ByteArray):=lim fun k=>run E k 142 x0
noncomputable def zfy [Dfr] (y0:List (List ByteArray)) (y3:Int) (y9:List (List ByteArray)) (y10 y11:Int):Option (Nat×(List (List ByteArray)×Int)):=lim fun k=>lp E 142 0 k k (y0,y3,y9,y10,y11)
noncomputable def zfx [Dfr] (y6:List ByteArray) (y25:List (List ByteArray)) (y26 y27:Int):Option (Nat×List ByteArray):=lim fun k=>lp E 142 2 k k (y6,y25,y26,y27)
noncomputable def zmw [Dfr] (x0:List Nd) (x1:Int):Option (List Int):=lim fun k=>run E k 154 (x0,x1)
noncomputable def zei [Dfr] (y5:List Int) (y6:Int) (y7:List (List Nd)) (y8 y9:Int):Option (Nat×List Int):=lim fun k=>lp E 154 0 k k (y5,y6,y7,y8,y9)
noncomputable def ybe [Dfr] (x0:List Int) (x1:Int):Option (Bool):=lim fun k=>run E k 155 (x0,x1)
noncomputable def zyv [Dfr] (y0:List Int) (y1:Int) (y4:Bool) (y5:Int):Option (Nat×Bool):=lim fun k=>lp E 155 0 k k (y0,y1,y4,y5)
noncomputable def qdk [Dfr] (x0:List Nd) (x1 x2:Int):Option (List (List Nd)×Bool):=lim fun k=>run E k 156 (x0,x1,x2)
noncomputable def znz [Dfr] (y0:List Nd) (y2:Int) (y8:List (List Nd)) (y9 y10:Int):Option (Nat×(List Nd×Int×List (List Nd)×Int×Int)):=lim fun k=>lp E 156 0 k k (y0,y2,y8,y9,y10)
noncomputable def zum [Dfr] (x0:List Nd):Option (Bool):=lim fun k=>run E k 157 x0
noncomputable def qgn [Dfr] (x0:List Nd):Option (Bool):=lim fun k=>run E k 158 x0
noncomputable def zpn [Dfr] (y0:List Nd) (y2:Bool) (y3:Int):Option (Nat×(List Nd×Bool)):=lim fun k=>lp E 158 0 k k (y0,y2,y3)
noncomputable def zas [Dfr] (x0:List Nd) (x1:Int):Option (Bool):=lim fun k=>run E k 159 (x0,x1)
noncomputable def zsi [Dfr] (x0:Int):Option (List Nd):=lim fun k=>run E k 160 x0
noncomputable def zhi [Dfr] (x0:Int) (x1 x2:List Nd):Option (List Nd):=lim fun k=>run E k 161 (x0,x1,x2)
noncomputable def qrv [Dfr] (x0 x1:List Nd):Option (List Nd):=lim fun k=>run E k 162 (x0,x1)
noncomputable def qrw [Dfr] (x0:List Nd):Option (List Nd):=lim fun k=>run E k 163 x0
noncomputable def qhe [Dfr] (x0:List Nd) (x1:Int):Option (List (List Nd)×Bool):=lim fun k=>run E k 164 (x0,x1)
noncomputable def zml [Dfr] (y0:List Nd) (y1:Int) (y4:List (List Nd)) (y5:Bool) (y19:List Int) (y20 y21:Int):Option (Nat×(List (List Nd)×Bool)):=lim fun k=>lp E 164 0 k k (y0,y1,y4,y5,y19,y20,y21)
noncomputable def zfo [Dfr] (x0:List (List Nd)) (x1:FnV):Option (Bool):=lim fun k=>run E k 165 (x0,x1)
noncomputable def zto [Dfr] (x0:List Nd):Option (Bool):=lim fun k=>run E k 166 x0
noncomputable def zpz [Dfr] (x0:List Int) (x1:FnV):Option (Int):=lim fun k=>run E k 167 (x0,x1)
noncomputable def zfw [Dfr] (y0:List Int) (y1:FnV) (y4 y7 y8:Int):Option (Nat×Int):=lim fun k=>lp E 167 0 k k (y0,y1,y4,y7,y8)
noncomputable def znb [Dfr] (x0 x1:ByteArray):Option (Int):=lim fun k=>run E k 169 (x0,x1)
noncomputable def zwe [Dfr] (x0:Int):Option (Bool):=lim fun k=>run E k 170 x0
noncomputable def zov [Dfr] (x0:Int):Option (List Nd):=lim fun k=>run E k 171 x0
noncomputable def zym [Dfr] (x0:Nd) (x1 x2:List Nd) (x3:Int):Option (List Nd):=lim fun k=>run E k 172 (x0,x1,x2,x3)
noncomputable def zui [Dfr] (x0 x1:List Nd):Option (List Nd):=lim fun k=>run E k 173 (x0,x1)
noncomputable def znl [Dfr] (x0:Int) (x1:List Nd):Option (List Nd):=lim fun k=>run E k 174 (x0,x1)
noncomputable def qku [Dfr] (x0:Nd) (x1 x2:List Nd):Option (List Nd):=lim fun k=>run E k 175 (x0,x1,x2)
noncomputable def qmn [Dfr] (x0:Nd) (x1:List Nd):Option (List Nd):=lim fun k=>run E k 176 (x0,x1)
noncomputable def znx [Dfr] (x0:Int):Option (Int):=lim fun k=>run E k 177 x0
theorem yat [Dfr] (x0:Int):zck (fun k=>run E k 177 x0) (znx x0):=.run _ _
noncomputable def zia [Dfr] (x0:Unit) (x1:Int):Option (List Tc):=lim fun k=>run E k 178 (x0,x1)
noncomputable def qih [Dfr] (x0 x1:Int):Option (Int):=lim fun k=>run E k 179 (x0,x1)
noncomputable def qpv [Dfr] (x0 x1:List ByteArray):Option (List (List ByteArray)):=lim fun k=>run E k 180 (x0,x1)
noncomputable def qdx [Dfr] (x0 x1:List Tc):Option (List (Tc×Tc)):=lim fun k=>run E k 181 (x0,x1)
noncomputable def zbd [Dfr] (x0 x1:List (Tc×Tc)) (x2:FnV):Option (List (Tc×Tc)):=lim fun k=>run E k 182 (x0,x1,x2)
noncomputable def zba [Dfr] (y1:List (Tc×Tc)) (y2:FnV) (y7:List (Tc×Tc)) (y9:Tc×Tc) (y12:List (Tc×Tc)) (y13 y14:Int) (y18:List (Tc×Tc)) (y19 y20:Int):Option (Nat×((List (Tc×Tc))×FnV×(List (Tc×Tc))×(List (Tc×Tc))×Int×Int)):=lim fun k=>lp E 182 2 k k (y1,y2,y7,y9,y12,y13,y14,y18,y19,y20)
noncomputable def zbb [Dfr] (y1:List (Tc×Tc)) (y2:FnV) (y7 y12:List (Tc×Tc)) (y13 y14:Int):Option (Nat×(List (Tc×Tc))):=lim fun k=>lp E 182 0 k k (y1,y2,y7,y12,y13,y14)
noncomputable def zzh [Dfr] (x0 x1:Tc×Tc):Option (List (Tc×Tc)):=lim fun k=>run E k 183 (x0,x1)
noncomputable def zic [Dfr] (x0:List (List (Tc×Tc))):Option (List (Tc×Tc)):=lim fun k=>run E k 184 x0
noncomputable def zel [Dfr] (y0:List (List (Tc×Tc))) (y3:Int) (y9:List (List (Tc×Tc))) (y10 y11:Int):Option (Nat×((List (List (Tc×Tc)))×Int)):=lim fun k=>lp E 184 0 k k (y0,y3,y9,y10,y11)
noncomputable def zek [Dfr] (y6:List (Tc×Tc)) (y25:List (List (Tc×Tc))) (y26 y27:Int):Option (Nat×(List (Tc×Tc))):=lim fun k=>lp E 184 2 k k (y6,y25,y26,y27)
noncomputable def zzg [Dfr] (x0 x1:Tc×Tc):Option (List (Tc×Tc)):=lim fun k=>run E k 185 (x0,x1)
noncomputable def zaw [Dfr] (x0 x1:List Tc) (x2:FnV):Option (List (Tc×Tc)):=lim fun k=>run E k 186 (x0,x1,x2)
noncomputable def zaq [Dfr] (y1:List Tc) (y2:FnV) (y7:List (Tc×Tc)) (y9:Tc) (y12:List Tc) (y13 y14:Int) (y18:List Tc) (y19 y20:Int):Option (Nat×(List Tc×FnV×(List (Tc×Tc))×List Tc×Int×Int)):=lim fun k=>lp E 186 2 k k (y1,y2,y7,y9,y12,y13,y14,y18,y19,y20)
noncomputable def zar [Dfr] (y1:List Tc) (y2:FnV) (y7:List (Tc×Tc)) (y12:List Tc) (y13 y14:Int):Option (Nat×(List (Tc×Tc))):=lim fun k=>lp E 186 0 k k (y1,y2,y7,y12,y13,y14)
noncomputable def qce [Dfr] (x0 x1:Tc):Option (List (Tc×Tc)):=lim fun k=>run E k 187 (x0,x1)
noncomputable def zbw [Dfr] (x0:List (Tc×Tc)) (x1:List Tc) (x2:FnV):Option (List (Tc×Tc)):=lim fun k=>run E k 188 (x0,x1,x2)
noncomputable def zat [Dfr] (y1:List Tc) (y2:FnV) (y7:List (Tc×Tc)) (y9:Tc×Tc) (y12:List (Tc×Tc)) (y13 y14:Int) (y18:List Tc) (y19 y20:Int):Option (Nat×(List Tc×FnV×(List (Tc×Tc))×(List (Tc×Tc))×Int×Int)):=lim fun k=>lp E 188 2 k k (y1,y2,y7,y9,y12,y13,y14,y18,y19,y20)
noncomputable def zau [Dfr] (y1:List Tc) (y2:FnV) (y7 y12:List (Tc×Tc)) (y13 y14:Int):Option (Nat×(List (Tc×Tc))):=lim fun k=>lp E 188 0 k k (y1,y2,y7,y12,y13,y14)
noncomputable def zzf [Dfr] (x0:Tc×Tc) (x1:Tc):Option (List (Tc×Tc)):=lim fun k=>run E k 189 (x0,x1)
noncomputable def zpq [Dfr] (x0:List (Tc×Tc)):Option (List (Tc×Tc)):=lim fun k=>run E k 190 x0
noncomputable def zon [Dfr] (x0:List Mv) (x1:Mv):Option (Int):=lim fun k=>run E k 191 (x0,x1)
noncomputable def zff [Dfr] (y0:List Mv) (y3:Mv) (y4 y7 y8:Int):Option (Nat×Int):=lim fun k=>lp E 191 0 k k (y0,y3,y4,y7,y8)
noncomputable def ziz [Dfr] (x0:List (List Nd)):Option (List Nd):=lim fun k=>run E k 192 x0
noncomputable def zey [Dfr] (y0:List (List Nd)) (y3:Int) (y9:List (List Nd)) (y10 y11:Int):Option (Nat×(List (List Nd)×Int)):=lim fun k=>lp E 192 0 k k (y0,y3,y9,y10,y11)
noncomputable def zex [Dfr] (y6:List Nd) (y25:List (List Nd)) (y26 y27:Int):Option (Nat×List Nd):=lim fun k=>lp E 192 2 k k (y6,y25,y26,y27)
noncomputable def qrp [Dfr] (x0:List Nd):Option (Bool):=lim fun k=>run E k 193 x0
noncomputable def zgn [Dfr] (x0:List Nd):Option (Int):=lim fun k=>run E k 194 x0
noncomputable def zng [Dfr] (y0:List Nd) (y2:Int) (y3:List Int) (y8:List (List Nd)) (y9 y10:Int):Option (Nat×(List Nd×Int×List Int)):=lim fun k=>lp E 194 0 k k (y0,y2,y3,y8,y9,y10)
noncomputable def zjx [Dfr] (x0 x1:List Nd):Option (Bool):=lim fun k=>run E k 195 (x0,x1)
noncomputable def zfg [Dfr] (y0 y1:List Nd) (y4:Bool) (y12 y13:Int):Option (Nat×Bool):=lim fun k=>lp E 195 0 k k (y0,y1,y4,y12,y13)
noncomputable def zms [Dfr] (x0:Unit) (x1:Int):Option (List ByteArray):=lim fun k=>run E k 207 (x0,x1)
noncomputable def qle [Dfr] (x0 x1:Int):Option (Int):=lim fun k=>run E k 210 (x0,x1)
noncomputable def ybd [Dfr] (x0 x1:Int):Option (Bool):=lim fun k=>run E k 211 (x0,x1)
noncomputable def znm [Dfr] (x0:List Nd):Option (Bool):=lim fun k=>run E k 212 x0
noncomputable def qgo [Dfr] (x0:Nd):Option (Bool):=lim fun k=>run E k 213 x0
noncomputable def zpo [Dfr] (y1:Nd) (y2:Bool) (y3:Int):Option (Nat×(Nd×Bool)):=lim fun k=>lp E 213 0 k k (y1,y2,y3)
noncomputable def zoz [Dfr] (x0:List Nd) (x1:List (List Nd)):Option (Bool):=lim fun k=>run E k 214 (x0,x1)
noncomputable def zno [Dfr] (x0:List Nd) (x1:List (List Nd)):Option (Bool):=lim fun k=>run E k 215 (x0,x1)
noncomputable def zoc [Dfr] (x0:List Nd) (x1:List (List Nd)):Option (Bool):=lim fun k=>run E k 216 (x0,x1)
noncomputable def zmf [Dfr] (x0:List Nd) (x1:List (List Nd)):Option (Bool):=lim fun k=>run E k 217 (x0,x1)
noncomputable def zbi [Dfr] (x0 x1:Int):Option (Nd):=lim fun k=>run E k 218 (x0,x1)
noncomputable def zob [Dfr] (x0:Int) (x1:List Nd):Option (List Nd):=lim fun k=>run E k 219 (x0,x1)
noncomputable def zkh [Dfr] (x0:List (List Nd)) (x1:FnV):Option (Int):=lim fun k=>run E k 221 (x0,x1)
noncomputable def zdh [Dfr] (y0:List (List Nd)) (y1:FnV) (y4 y7 y8:Int):Option (Nat×Int):=lim fun k=>lp E 221 0 k k (y0,y1,y4,y7,y8)
noncomputable def zlb [Dfr] (x0:List Nd):Option (Bool):=lim fun k=>run E k 222 x0
noncomputable def qiv [Dfr] (x0:List Nd):Option (Bool):=lim fun k=>run E k 224 x0
theorem ygk [Dfr] (x0:List Nd):zck (fun k=>run E k 224 x0) (qiv x0):=.run _ _
noncomputable def zpf [Dfr] (x0:ByteArray):Option (Bool):=lim fun k=>run E k 225 x0
noncomputable def zlv [Dfr] (x0 x1:List ByteArray):Option (Bool):=lim fun k=>run E k 229 (x0,x1)
noncomputable def zgi [Dfr] (y0 y1:List ByteArray) (y4:Bool) (y12 y13:Int):Option (Nat×Bool):=lim fun k=>lp E 229 0 k k (y0,y1,y4,y12,y13)
noncomputable def qcg [Dfr] (x0 x1:Tc):Option (List (Tc×Tc)):=lim fun k=>run E k 230 (x0,x1)
noncomputable def zjw [Dfr] (x0:Unit) (x1:Int):Option (List (Tc×Tc)):=lim fun k=>run E k 231 (x0,x1)
noncomputable def qlj [Dfr] (x0 x1:Tc×Tc):Option (Int):=lim fun k=>run E k 232 (x0,x1)
noncomputable def qli [Dfr] (x0 x1:Tc×Tc) (x2:Nat):Option (Bool):=lim fun k=>run E k 235 (x0,x1,x2)
noncomputable def zki [Dfr] (x0:Unit) (x1:Int):Option (List Nd):=lim fun k=>run E k 236 (x0,x1)
noncomputable def qgd [Dfr] (x0:Nd):Option (Bool):=lim fun k=>run E k 237 x0
noncomputable def qrq [Dfr] (x0:Nd):Option (Bool):=lim fun k=>run E k 238 x0
noncomputable def zgc [Dfr] (x0:List Nd) (x1:FnV):Option (Bool):=lim fun k=>run E k 239 (x0,x1)
noncomputable def qic [Dfr] (x0 x1:Int):Option (Int):=lim fun k=>run E k 240 (x0,x1)
noncomputable def zsu [Dfr] (x0 x1 x2:Int):Option (Int):=lim fun k=>run E k 241 (x0,x1,x2)
noncomputable def qoz [Dfr] (x0:Int):Option (Bool):=lim fun k=>run E k 250 x0
noncomputable def qlc [Dfr] (x0:ByteArray):Option (Bool):=lim fun k=>run E k 251 x0
noncomputable def qrk [Dfr] (x0:ByteArray):Option (Bool):=lim fun k=>run E k 254 x0
noncomputable def zlp [Dfr] (x0:List Nd) (x1:FnV):Option (Int):=lim fun k=>run E k 255 (x0,x1)
noncomputable def zdt [Dfr] (y0:List Nd) (y1:FnV) (y4 y7 y8:Int):Option (Nat×Int):=lim fun k=>lp E 255 0 k k (y0,y1,y4,y7,y8)
noncomputable def qay [Dfr] (x0 x1:ByteArray):Option (ByteArray):=lim fun k=>run E k 277 (x0,x1)
noncomputable def ziy [Dfr] (x0:List ByteArray) (x1:ByteArray):Option (Bool):=lim fun k=>run E k 278 (x0,x1)
noncomputable def zrf [Dfr] (x0:List ByteArray) (x1:ByteArray):Option (Int):=lim fun k=>run E k 296 (x0,x1)
noncomputable def zgg [Dfr] (y0:List ByteArray) (y1:ByteArray) (y4 y7 y8:Int):Option (Nat×Int):=lim fun k=>lp E 296 0 k k (y0,y1,y4,y7,y8)
end Go.Proofs.YtjolkdjkhekbnaaGreatDoor.Sv
