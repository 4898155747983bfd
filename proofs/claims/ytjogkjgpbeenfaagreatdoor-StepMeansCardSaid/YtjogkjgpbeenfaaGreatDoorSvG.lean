/- The functions of the seat by name, as the evaluator tells them: what each tells in the end, and its equation, checked by the kernel. Written by a program (gen.py, emit3.py). -/
import Derived.Test.YtjogkjgpbeenfaaGreatDoorSvE
namespace Go.Proofs.YtjogkjgpbeenfaaGreatDoor.Sv
open Go Go.Sv Go.Proofs
set_option linter.unusedVariables false
set_option maxRecDepth 100000
/-! redress/redresslaw13.StepMeans -/
noncomputable def qbh [Dfr] (x0 : List Nd) : Option (Bool) := lim fun k => run E k 4 x0
noncomputable def zhe [Dfr] (y0 : List Nd) (y2 : Bool) (y3 : List Tc) (y40 : List Mv) (y41 : Int) (y42 : Int) : Option (Nat × (List Nd × Bool × List Tc)) := lim fun k => lp E 4 0 k k (y0, y2, y3, y40, y41, y42)
theorem zok [Dfr] (y0 : List Nd) (y2 : Bool) (y3 : List Tc) (y40 : List Mv) (y41 : Int) (y42 : Int) : zab (fun k => lp E 4 0 k k (y0, y2, y3, y40, y41, y42)) (zhe y0 y2 y3 y40 y41 y42) := .lp _ _ _
/-! redress/redresslaw13.few -/
noncomputable def qhf [Dfr] (x0 : List Nd) : Option (Bool) := lim fun k => run E k 5 x0
theorem qxb [Dfr] (x0 : List Nd) : zab (fun k => run E k 5 x0) (qhf x0) := .run _ _
/-! redress/redresslaw13.alive -/
noncomputable def zix [Dfr] : Option (Bool) := lim fun k => run E k 6 ()
theorem zia [Dfr] : zab (fun k => run E k 6 ()) (zix) := .run _ _
/-! redress/step.Next -/
noncomputable def zsd [Dfr] (x0 : List Nd) (x1 : Mv) : Option (List Nd × ByteArray × Int) := lim fun k => run E k 7 (x0, x1)
theorem zri [Dfr] (x0 : List Nd) (x1 : Mv) : zab (fun k => run E k 7 (x0, x1)) (zsd x0 x1) := .run _ _
/-! redress/step.Refuse -/
noncomputable def zxo [Dfr] (x0 : List Nd) (x1 : Mv) : Option (List Nd × Int) := lim fun k => run E k 9 (x0, x1)
theorem qnd [Dfr] (x0 : List Nd) (x1 : Mv) : zab (fun k => run E k 9 (x0, x1)) (zxo x0 x1) := .run _ _
/-! redress/redressref03.Same -/
noncomputable def zhx [Dfr] (x0 : List Nd) (x1 : List Nd) : Option (Bool) := lim fun k => run E k 11 (x0, x1)
theorem zpf [Dfr] (x0 : List Nd) (x1 : List Nd) : zab (fun k => run E k 11 (x0, x1)) (zhx x0 x1) := .run _ _
noncomputable def znu [Dfr] (y0 : List Nd) (y1 : List Nd) (y4 : Bool) (y5 : Int) : Option (Nat × Bool) := lim fun k => lp E 11 0 k k (y0, y1, y4, y5)
theorem zwq [Dfr] (y0 : List Nd) (y1 : List Nd) (y4 : Bool) (y5 : Int) : zab (fun k => lp E 11 0 k k (y0, y1, y4, y5)) (znu y0 y1 y4 y5) := .lp _ _ _
/-! redress/sort.On -/
noncomputable def qei [Dfr] (x0 : List Nd) (x1 : Bool) : Option (Bool) := lim fun k => run E k 12 (x0, x1)
theorem zxs [Dfr] (x0 : List Nd) (x1 : Bool) : zab (fun k => run E k 12 (x0, x1)) (qei x0 x1) := .run _ _
/-! redress/settle.Settled -/
noncomputable def zji [Dfr] (x0 : List Nd) : Option (Bool) := lim fun k => run E k 13 x0
theorem znq [Dfr] (x0 : List Nd) : zab (fun k => run E k 13 x0) (zji x0) := .run _ _
/-! redress/mean.Small -/
noncomputable def zxa [Dfr] (x0 : List Nd) : Option (Bool) := lim fun k => run E k 14 x0
theorem qdt [Dfr] (x0 : List Nd) : zab (fun k => run E k 14 x0) (zxa x0) := .run _ _
/-! redress/move.Enabled -/
noncomputable def zkt [Dfr] (x0 : List Nd) : Option (List Mv) := lim fun k => run E k 15 x0
theorem zzg [Dfr] (x0 : List Nd) : zab (fun k => run E k 15 x0) (zkt x0) := .run _ _
noncomputable def zfh [Dfr] (y0 : List Nd) (y3 : List (Int × List (Int × Nat))) (y4 : List Mv) (y6 : Int) (y11 : List Int) (y12 : Int) (y13 : Int) (y23 : List (Int × Nat)) (y24 : Int) (y25 : Int) : Option (Nat × (List Nd × (List (Int × List (Int × Nat))) × List Mv × List Int × Int × Int)) := lim fun k => lp E 15 2 k k (y0, y3, y4, y6, y11, y12, y13, y23, y24, y25)
theorem zmr [Dfr] (y0 : List Nd) (y3 : List (Int × List (Int × Nat))) (y4 : List Mv) (y6 : Int) (y11 : List Int) (y12 : Int) (y13 : Int) (y23 : List (Int × Nat)) (y24 : Int) (y25 : Int) : zab (fun k => lp E 15 2 k k (y0, y3, y4, y6, y11, y12, y13, y23, y24, y25)) (zfh y0 y3 y4 y6 y11 y12 y13 y23 y24 y25) := .lp _ _ _
noncomputable def zks [Dfr] (y0 : List Nd) (y3 : List (Int × List (Int × Nat))) (y4 : List Mv) (y11 : List Int) (y12 : Int) (y13 : Int) : Option (Nat × List Mv) := lim fun k => lp E 15 0 k k (y0, y3, y4, y11, y12, y13)
theorem zst [Dfr] (y0 : List Nd) (y3 : List (Int × List (Int × Nat))) (y4 : List Mv) (y11 : List Int) (y12 : Int) (y13 : Int) : zab (fun k => lp E 15 0 k k (y0, y3, y4, y11, y12, y13)) (zks y0 y3 y4 y11 y12 y13) := .lp _ _ _
/-! redress/mean.Plain -/
noncomputable def zxb [Dfr] (x0 : List Nd) : Option (List Tc × Int) := lim fun k => run E k 16 x0
theorem qdu [Dfr] (x0 : List Nd) : zab (fun k => run E k 16 x0) (zxb x0) := .run _ _
/-! redress/redresslaw13.ahead -/
noncomputable def zyn [Dfr] (x0 : ByteArray) (x1 : List Tc) : Option (List Tc) := lim fun k => run E k 17 (x0, x1)
theorem qpt [Dfr] (x0 : ByteArray) (x1 : List Tc) : zab (fun k => run E k 17 (x0, x1)) (zyn x0 x1) := .run _ _
noncomputable def zjm [Dfr] (y0 : ByteArray) (y5 : List Tc) (y9 : List Tc) (y10 : Int) (y11 : Int) : Option (Nat × List Tc) := lim fun k => lp E 17 0 k k (y0, y5, y9, y10, y11)
theorem zny [Dfr] (y0 : ByteArray) (y5 : List Tc) (y9 : List Tc) (y10 : Int) (y11 : Int) : zab (fun k => lp E 17 0 k k (y0, y5, y9, y10, y11)) (zjm y0 y5 y9 y10 y11) := .lp _ _ _
/-! redress/redressref02.Same -/
noncomputable def qck [Dfr] (x0 : List Tc) (x1 : List Tc) : Option (Bool) := lim fun k => run E k 18 (x0, x1)
theorem qrx [Dfr] (x0 : List Tc) (x1 : List Tc) : zab (fun k => run E k 18 (x0, x1)) (qck x0 x1) := .run _ _
noncomputable def znv [Dfr] (y0 : List Tc) (y1 : List Tc) (y4 : Bool) (y5 : Int) : Option (Nat × Bool) := lim fun k => lp E 18 0 k k (y0, y1, y4, y5)
theorem zws [Dfr] (y0 : List Tc) (y1 : List Tc) (y4 : Bool) (y5 : Int) : zab (fun k => lp E 18 0 k k (y0, y1, y4, y5)) (znv y0 y1 y4 y5) := .lp _ _ _
/-! redress/redressref02.Set -/
noncomputable def zwr [Dfr] (x0 : List Tc) : Option (List Tc) := lim fun k => run E k 19 x0
theorem zyh [Dfr] (x0 : List Tc) : zab (fun k => run E k 19 x0) (zwr x0) := .run _ _
/-! redress/redresslaw02.Olds -/
noncomputable def qcs [Dfr] (x0 : List Tc) : Option (List Tc) := lim fun k => run E k 20 x0
theorem qsp [Dfr] (x0 : List Tc) : zab (fun k => run E k 20 x0) (qcs x0) := .run _ _
noncomputable def znz [Dfr] (y3 : List Tc) (y6 : List Tc) (y7 : Int) (y8 : Int) : Option (Nat × List Tc) := lim fun k => lp E 20 0 k k (y3, y6, y7, y8)
theorem zxe [Dfr] (y3 : List Tc) (y6 : List Tc) (y7 : Int) (y8 : Int) : zab (fun k => lp E 20 0 k k (y3, y6, y7, y8)) (znz y3 y6 y7 y8) := .lp _ _ _
/-! redress/redressref03.Depth -/
noncomputable def zyf [Dfr] (x0 : List Nd) : Option (Int) := lim fun k => run E k 21 x0
theorem qor [Dfr] (x0 : List Nd) : zab (fun k => run E k 21 x0) (zyf x0) := .run _ _
/-! redress/redresslaw13.act -/
noncomputable def zkz [Dfr] (x0 : ByteArray) : Option (Nd) := lim fun k => run E k 22 x0
theorem zgc [Dfr] (x0 : ByteArray) : zab (fun k => run E k 22 x0) (zkz x0) := .run _ _
/-! redress/step.Put -/
noncomputable def qcd [Dfr] (x0 : List Nd) (x1 : Int) (x2 : List Nd) : Option (List Nd) := lim fun k => run E k 23 (x0, x1, x2)
theorem zzx [Dfr] (x0 : List Nd) (x1 : Int) (x2 : List Nd) : zab (fun k => run E k 23 (x0, x1, x2)) (qcd x0 x1 x2) := .run _ _
/-! redress/move.Is -/
noncomputable def qpg [Dfr] (x0 : List Nd) (x1 : Mv) : Option (Bool) := lim fun k => run E k 24 (x0, x1)
theorem qpf [Dfr] (x0 : List Nd) (x1 : Mv) : zab (fun k => run E k 24 (x0, x1)) (qpg x0 x1) := .run _ _
/-! redress/settle.Settle -/
noncomputable def zlg [Dfr] (x0 : List Nd) : Option (List Nd) := lim fun k => run E k 25 x0
theorem zos [Dfr] (x0 : List Nd) : zab (fun k => run E k 25 x0) (zlg x0) := .run _ _
/-! redress/step.made -/
noncomputable def qfr [Dfr] (x0 : List Nd) (x1 : Int) : Option (List Nd) := lim fun k => run E k 26 (x0, x1)
theorem qvk [Dfr] (x0 : List Nd) (x1 : Int) : zab (fun k => run E k 26 (x0, x1)) (qfr x0 x1) := .run _ _
/-! redress/step.leaf -/
noncomputable def zvy [Dfr] (x0 : Int) (x1 : Int) : Option (List Nd) := lim fun k => run E k 31 (x0, x1)
theorem zrg [Dfr] (x0 : Int) (x1 : Int) : zab (fun k => run E k 31 (x0, x1)) (zvy x0 x1) := .run _ _
/-! redress/sort.on -/
noncomputable def zqi [Dfr] (x0 : Int) : Option (Int) := lim fun k => run E k 33 x0
theorem zis [Dfr] (x0 : Int) : zab (fun k => run E k 33 x0) (zqi x0) := .run _ _
/-! redress/sort.Of -/
noncomputable def qnm [Dfr] (x0 : List Nd) : Option (Int) := lim fun k => run E k 34 x0
theorem qnl [Dfr] (x0 : List Nd) : zab (fun k => run E k 34 x0) (qnm x0) := .run _ _
/-! redress/row.Same -/
noncomputable def qmg [Dfr] (x0 : List Nd) (x1 : List Nd) : Option (Bool) := lim fun k => run E k 35 (x0, x1)
theorem qzg [Dfr] (x0 : List Nd) (x1 : List Nd) : zab (fun k => run E k 35 (x0, x1)) (qmg x0 x1) := .run _ _
/-! redress/row.Count -/
noncomputable def qap [Dfr] (x0 : List Nd) (x1 : List Int) : Option (Int) := lim fun k => run E k 36 (x0, x1)
theorem qgp [Dfr] (x0 : List Nd) (x1 : List Int) : zab (fun k => run E k 36 (x0, x1)) (qap x0 x1) := .run _ _
noncomputable def znc [Dfr] (y1 : List Int) (y5 : Int) (y8 : List Nd) (y9 : Int) (y10 : Int) : Option (Nat × Int) := lim fun k => lp E 36 0 k k (y1, y5, y8, y9, y10)
theorem zqo [Dfr] (y1 : List Int) (y5 : Int) (y8 : List Nd) (y9 : Int) (y10 : Int) : zab (fun k => lp E 36 0 k k (y1, y5, y8, y9, y10)) (znc y1 y5 y8 y9 y10) := .lp _ _ _
/-! redress/move.ways -/
noncomputable def qpc [Dfr] : Option (List (Int × List (Int × Nat))) := lim fun k => run E k 37 ()
theorem qwr [Dfr] : zab (fun k => run E k 37 ()) (qpc) := .run _ _
/-! redress/doom.Active -/
noncomputable def zpb [Dfr] (x0 : List Nd) : Option (List Int) := lim fun k => run E k 38 x0
theorem qbq [Dfr] (x0 : List Nd) : zab (fun k => run E k 38 x0) (zpb x0) := .run _ _
noncomputable def zhn [Dfr] (y1 : List Nd) (y3 : FnV) (y4 : List Int) (y11 : Int) (y12 : Int) : Option (Nat × List Int) := lim fun k => lp E 38 0 k k (y1, y3, y4, y11, y12)
theorem zkd [Dfr] (y1 : List Nd) (y3 : FnV) (y4 : List Int) (y11 : Int) (y12 : Int) : zab (fun k => lp E 38 0 k k (y1, y3, y4, y11, y12)) (zhn y1 y3 y4 y11 y12) := .lp _ _ _
/-! redress/mean.told[redress/trace.Trace] -/
noncomputable def zgn [Dfr] (x0 : List Nd) (x1 : Bool) (x2 : FnV) : Option (List Tc × Int) := lim fun k => run E k 39 (x0, x1, x2)
theorem ztu [Dfr] (x0 : List Nd) (x1 : Bool) (x2 : FnV) : zab (fun k => run E k 39 (x0, x1, x2)) (zgn x0 x1 x2) := .run _ _
/-! redress/mean.plain -/
noncomputable def zdi [Dfr] (x0 : List Nd) : Option (List Tc) := lim fun k => run E k 40 x0
theorem zbj [Dfr] (x0 : List Nd) : zab (fun k => run E k 40 x0) (zdi x0) := .run _ _
noncomputable def ziv [Dfr] (y4 : List Tc) (y93 : List (Tc × Tc)) (y94 : Int) (y95 : Int) : Option (Nat × List Tc) := lim fun k => lp E 40 1 k k (y4, y93, y94, y95)
theorem zln [Dfr] (y4 : List Tc) (y93 : List (Tc × Tc)) (y94 : Int) (y95 : Int) : zab (fun k => lp E 40 1 k k (y4, y93, y94, y95)) (ziv y4 y93 y94 y95) := .lp _ _ _
/-! redress/redressref02.Compare -/
noncomputable def zll [Dfr] (x0 : Tc) (x1 : Tc) : Option (Int) := lim fun k => run E k 41 (x0, x1)
theorem zov [Dfr] (x0 : Tc) (x1 : Tc) : zab (fun k => run E k 41 (x0, x1)) (zll x0 x1) := .run _ _
/-! redress/redressref02.merge -/
noncomputable def zyg [Dfr] (x0 : List Tc) (x1 : List Tc) : Option (List Tc) := lim fun k => run E k 42 (x0, x1)
theorem qot [Dfr] (x0 : List Tc) (x1 : List Tc) : zab (fun k => run E k 42 (x0, x1)) (zyg x0 x1) := .run _ _
noncomputable def zbc [Dfr] (y0 : List Tc) (y1 : List Tc) (y5 : List Tc) (y6 : Int) (y7 : Int) : Option (Nat × List Tc) := lim fun k => lp E 42 0 k k (y0, y1, y5, y6, y7)
theorem zay [Dfr] (y0 : List Tc) (y1 : List Tc) (y5 : List Tc) (y6 : Int) (y7 : Int) : zab (fun k => lp E 42 0 k k (y0, y1, y5, y6, y7)) (zbc y0 y1 y5 y6 y7) := .lp _ _ _
/-! redress/redressref03.Walk -/
noncomputable def zwp [Dfr] (x0 : List Nd) (x1 : Int) : Option (Int × Int) := lim fun k => run E k 43 (x0, x1)
theorem qdl [Dfr] (x0 : List Nd) (x1 : Int) : zab (fun k => run E k 43 (x0, x1)) (zwp x0 x1) := .run _ _
noncomputable def znt [Dfr] (y0 : List Nd) (y1 : Int) (y4 : Int) (y5 : Int) (y6 : Int) (y7 : Int) (y8 : Int) : Option (Nat × (Int × Int × Int × Int)) := lim fun k => lp E 43 0 k k (y0, y1, y4, y5, y6, y7, y8)
theorem zou [Dfr] (y0 : List Nd) (y1 : Int) (y4 : Int) (y5 : Int) (y6 : Int) (y7 : Int) (y8 : Int) : zab (fun k => lp E 43 0 k k (y0, y1, y4, y5, y6, y7, y8)) (znt y0 y1 y4 y5 y6 y7 y8) := .lp _ _ _
/-! redress/row.Size -/
noncomputable def znr [Dfr] (x0 : List Nd) : Option (Int) := lim fun k => run E k 44 x0
theorem zpt [Dfr] (x0 : List Nd) : zab (fun k => run E k 44 x0) (znr x0) := .run _ _
noncomputable def zsp [Dfr] (y2 : Int) (y3 : Int) (y7 : List Nd) (y8 : Int) (y9 : Int) : Option (Nat × Int) := lim fun k => lp E 44 0 k k (y2, y3, y7, y8, y9)
theorem qam [Dfr] (y2 : Int) (y3 : Int) (y7 : List Nd) (y8 : Int) (y9 : Int) : zab (fun k => lp E 44 0 k k (y2, y3, y7, y8, y9)) (zsp y2 y3 y7 y8 y9) := .lp _ _ _
/-! slices.Contains[[]redress/api.Move,redress/api.Move] -/
noncomputable def zfa [Dfr] (x0 : List Mv) (x1 : Mv) : Option (Bool) := lim fun k => run E k 45 (x0, x1)
theorem zqk [Dfr] (x0 : List Mv) (x1 : Mv) : zab (fun k => run E k 45 (x0, x1)) (zfa x0 x1) := .run _ _
/-! redress/settle.settle -/
noncomputable def zbq [Dfr] (x0 : List Nd) : Option (List Nd) := lim fun k => run E k 46 x0
theorem zbf [Dfr] (x0 : List Nd) : zab (fun k => run E k 46 x0) (zbq x0) := .run _ _
/-! redress/row.Kids -/
noncomputable def zgm [Dfr] (x0 : List Nd) : Option (List (List Nd)) := lim fun k => run E k 47 x0
theorem zin [Dfr] (x0 : List Nd) : zab (fun k => run E k 47 x0) (zgm x0) := .run _ _
noncomputable def zyc [Dfr] (y0 : List Nd) (y3 : List (List Nd)) (y4 : Int) (y13 : Int) (y14 : Int) : Option (Nat × List (List Nd)) := lim fun k => lp E 47 0 k k (y0, y3, y4, y13, y14)
theorem qan [Dfr] (y0 : List Nd) (y3 : List (List Nd)) (y4 : Int) (y13 : Int) (y14 : Int) : zab (fun k => lp E 47 0 k k (y0, y3, y4, y13, y14)) (zyc y0 y3 y4 y13 y14) := .lp _ _ _
/-! redress/step.made$1 -/
noncomputable def zsc [Dfr] (x0 : List Nd) (x1 : List Nd) (x2 : List Nd) : Option (List Nd) := lim fun k => run E k 48 (x0, x1, x2)
theorem zzw [Dfr] (x0 : List Nd) (x1 : List Nd) (x2 : List Nd) : zab (fun k => run E k 48 (x0, x1, x2)) (zsc x0 x1 x2) := .run _ _
/-! redress/row.Make -/
noncomputable def zbw [Dfr] (x0 : Nd) (x1 : List (List Nd)) : Option (List Nd) := lim fun k => run E k 49 (x0, x1)
theorem zde [Dfr] (x0 : Nd) (x1 : List (List Nd)) : zab (fun k => run E k 49 (x0, x1)) (zbw x0 x1) := .run _ _
/-! redress/row.Whole -/
noncomputable def qgn [Dfr] (x0 : List Nd) : Option (Bool) := lim fun k => run E k 57 x0
theorem qwc [Dfr] (x0 : List Nd) : zab (fun k => run E k 57 x0) (qgn x0) := .run _ _
/-! redress/sort.sort -/
noncomputable def zft [Dfr] (x0 : List Nd) : Option (Int) := lim fun k => run E k 58 x0
theorem qfw [Dfr] (x0 : List Nd) : zab (fun k => run E k 58 x0) (zft x0) := .run _ _
noncomputable def zkh [Dfr] (y0 : List Nd) (y2 : Int) (y3 : List Int) (y8 : List (List Nd)) (y9 : Int) (y10 : Int) : Option (Nat × (List Nd × Int × List Int)) := lim fun k => lp E 58 0 k k (y0, y2, y3, y8, y9, y10)
theorem zza [Dfr] (y0 : List Nd) (y2 : Int) (y3 : List Int) (y8 : List (List Nd)) (y9 : Int) (y10 : Int) : zab (fun k => lp E 58 0 k k (y0, y2, y3, y8, y9, y10)) (zkh y0 y2 y3 y8 y9 y10) := .lp _ _ _
/-! slices.Equal[[]redress/api.Node,redress/api.Node] -/
noncomputable def zgl [Dfr] (x0 : List Nd) (x1 : List Nd) : Option (Bool) := lim fun k => run E k 59 (x0, x1)
theorem ztl [Dfr] (x0 : List Nd) (x1 : List Nd) : zab (fun k => run E k 59 (x0, x1)) (zgl x0 x1) := .run _ _
noncomputable def zdl [Dfr] (y0 : List Nd) (y1 : List Nd) (y4 : Bool) (y12 : Int) (y13 : Int) : Option (Nat × Bool) := lim fun k => lp E 59 0 k k (y0, y1, y4, y12, y13)
theorem zjd [Dfr] (y0 : List Nd) (y1 : List Nd) (y4 : Bool) (y12 : Int) (y13 : Int) : zab (fun k => lp E 59 0 k k (y0, y1, y4, y12, y13)) (zdl y0 y1 y4 y12 y13) := .lp _ _ _
/-! slices.Contains[[]int,int] -/
noncomputable def zfv [Dfr] (x0 : List Int) (x1 : Int) : Option (Bool) := lim fun k => run E k 60 (x0, x1)
theorem zna [Dfr] (x0 : List Int) (x1 : Int) : zab (fun k => run E k 60 (x0, x1)) (zfv x0 x1) := .run _ _
/-! redress/move.always -/
noncomputable def qpe [Dfr] (x0 : List Nd) (x1 : Int) : Option (Bool) := lim fun k => run E k 61 (x0, x1)
/-! redress/doom.Free -/
noncomputable def zxg [Dfr] (x0 : List Nd) (x1 : Int) : Option (Bool) := lim fun k => run E k 62 (x0, x1)
/-! redress/doom.Active$1 -/
noncomputable def zyv [Dfr] (x0 : Int) (x1 : List Nd) : Option (Bool) := lim fun k => run E k 63 (x0, x1)
/-! slices.ContainsFunc[[]int,int] -/
noncomputable def zfo [Dfr] (x0 : List Int) (x1 : FnV) : Option (Bool) := lim fun k => run E k 64 (x0, x1)
theorem zrl [Dfr] (x0 : List Int) (x1 : FnV) : zab (fun k => run E k 64 (x0, x1)) (zfo x0 x1) := .run _ _
/-! redress/plot.Over -/
noncomputable def qas [Dfr] (x0 : List Nd) (x1 : Int) : Option (List Int) := lim fun k => run E k 65 (x0, x1)
theorem qgv [Dfr] (x0 : List Nd) (x1 : Int) : zab (fun k => run E k 65 (x0, x1)) (qas x0 x1) := .run _ _
/-! redress/doom.Active$1$1 -/
noncomputable def zlb [Dfr] (x0 : Int) (x1 : List Nd) (x2 : Int) : Option (Bool) := lim fun k => run E k 66 (x0, x1, x2)
/-! redress/doom.kid -/
noncomputable def qht [Dfr] (x0 : List Nd) (x1 : Int) (x2 : Int) : Option (Int) := lim fun k => run E k 67 (x0, x1, x2)
theorem qkw [Dfr] (x0 : List Nd) (x1 : Int) (x2 : Int) : zab (fun k => run E k 67 (x0, x1, x2)) (qht x0 x1 x2) := .run _ _
noncomputable def zys [Dfr] (y2 : Int) (y6 : Int) (y16 : List (List Nd)) (y17 : Int) (y18 : Int) : Option (Nat × Int) := lim fun k => lp E 67 0 k k (y2, y6, y16, y17, y18)
theorem qbp [Dfr] (y2 : Int) (y6 : Int) (y16 : List (List Nd)) (y17 : Int) (y18 : Int) : zab (fun k => lp E 67 0 k k (y2, y6, y16, y17, y18)) (zys y2 y6 y16 y17 y18) := .lp _ _ _
/-! redress/doom.goes -/
noncomputable def qhu [Dfr] (x0 : Nd) : Option (Int) := lim fun k => run E k 68 x0
theorem qxk [Dfr] (x0 : Nd) : zab (fun k => run E k 68 x0) (qhu x0) := .run _ _
/-! redress/mean.ends -/
noncomputable def zkw [Dfr] (x0 : Int) : Option (Tc) := lim fun k => run E k 69 x0
theorem zgb [Dfr] (x0 : Int) : zab (fun k => run E k 69 x0) (zkw x0) := .run _ _
/-! redress/mean.cross[redress/trace.Trace,redress/trace.Trace,redress/trace.Trace] -/
noncomputable def zae [Dfr] (x0 : List Tc) (x1 : List Tc) (x2 : FnV) : Option (List Tc) := lim fun k => run E k 70 (x0, x1, x2)
theorem zbb [Dfr] (x0 : List Tc) (x1 : List Tc) (x2 : FnV) : zab (fun k => run E k 70 (x0, x1, x2)) (zae x0 x1 x2) := .run _ _
noncomputable def zah [Dfr] (y1 : List Tc) (y2 : FnV) (y7 : List Tc) (y9 : Tc) (y12 : List Tc) (y13 : Int) (y14 : Int) (y18 : List Tc) (y19 : Int) (y20 : Int) : Option (Nat × (List Tc × FnV × List Tc × List Tc × Int × Int)) := lim fun k => lp E 70 2 k k (y1, y2, y7, y9, y12, y13, y14, y18, y19, y20)
theorem zby [Dfr] (y1 : List Tc) (y2 : FnV) (y7 : List Tc) (y9 : Tc) (y12 : List Tc) (y13 : Int) (y14 : Int) (y18 : List Tc) (y19 : Int) (y20 : Int) : zab (fun k => lp E 70 2 k k (y1, y2, y7, y9, y12, y13, y14, y18, y19, y20)) (zah y1 y2 y7 y9 y12 y13 y14 y18 y19 y20) := .lp _ _ _
noncomputable def zai [Dfr] (y1 : List Tc) (y2 : FnV) (y7 : List Tc) (y12 : List Tc) (y13 : Int) (y14 : Int) : Option (Nat × List Tc) := lim fun k => lp E 70 0 k k (y1, y2, y7, y12, y13, y14)
theorem zbz [Dfr] (y1 : List Tc) (y2 : FnV) (y7 : List Tc) (y12 : List Tc) (y13 : Int) (y14 : Int) : zab (fun k => lp E 70 0 k k (y1, y2, y7, y12, y13, y14)) (zai y1 y2 y7 y12 y13 y14) := .lp _ _ _
/-! redress/mean.plain$1 -/
noncomputable def qba [Dfr] (x0 : Tc) (x1 : Tc) : Option (List Tc) := lim fun k => run E k 71 (x0, x1)
/-! redress/trace.Then -/
noncomputable def zmv [Dfr] (x0 : Tc) (x1 : Tc) : Option (Tc) := lim fun k => run E k 72 (x0, x1)
theorem zma [Dfr] (x0 : Tc) (x1 : Tc) : zab (fun k => run E k 72 (x0, x1)) (zmv x0 x1) := .run _ _
/-! slices.Concat[[]redress/trace.Trace,redress/trace.Trace] -/
noncomputable def zer [Dfr] (x0 : List (List Tc)) : Option (List Tc) := lim fun k => run E k 73 x0
theorem zpp [Dfr] (x0 : List (List Tc)) : zab (fun k => run E k 73 x0) (zer x0) := .run _ _
noncomputable def zbu [Dfr] (y0 : List (List Tc)) (y3 : Int) (y9 : List (List Tc)) (y10 : Int) (y11 : Int) : Option (Nat × (List (List Tc) × Int)) := lim fun k => lp E 73 0 k k (y0, y3, y9, y10, y11)
theorem zha [Dfr] (y0 : List (List Tc)) (y3 : Int) (y9 : List (List Tc)) (y10 : Int) (y11 : Int) : zab (fun k => lp E 73 0 k k (y0, y3, y9, y10, y11)) (zbu y0 y3 y9 y10 y11) := .lp _ _ _
noncomputable def zbt [Dfr] (y6 : List Tc) (y25 : List (List Tc)) (y26 : Int) (y27 : Int) : Option (Nat × List Tc) := lim fun k => lp E 73 2 k k (y6, y25, y26, y27)
theorem zgz [Dfr] (y6 : List Tc) (y25 : List (List Tc)) (y26 : Int) (y27 : Int) : zab (fun k => lp E 73 2 k k (y6, y25, y26, y27)) (zbt y6 y25 y26 y27) := .lp _ _ _
/-! redress/trace.Par -/
noncomputable def zvw [Dfr] (x0 : Tc) (x1 : Tc) : Option (List Tc) := lim fun k => run E k 74 (x0, x1)
theorem qfl [Dfr] (x0 : Tc) (x1 : Tc) : zab (fun k => run E k 74 (x0, x1)) (zvw x0 x1) := .run _ _
noncomputable def zpl [Dfr] (y5 : Int) (y6 : List Tc) (y18 : List (List ByteArray)) (y19 : Int) (y20 : Int) : Option (Nat × List Tc) := lim fun k => lp E 74 0 k k (y5, y6, y18, y19, y20)
theorem zyz [Dfr] (y5 : Int) (y6 : List Tc) (y18 : List (List ByteArray)) (y19 : Int) (y20 : Int) : zab (fun k => lp E 74 0 k k (y5, y6, y18, y19, y20)) (zpl y5 y6 y18 y19 y20) := .lp _ _ _
/-! redress/mean.plain$2 -/
noncomputable def qaz [Dfr] (x0 : Tc) (x1 : Tc) : Option (List Tc) := lim fun k => run E k 75 (x0, x1)
/-! redress/mean.behind -/
noncomputable def zsx [Dfr] (x0 : Tc) (x1 : Tc) : Option (Tc) := lim fun k => run E k 76 (x0, x1)
theorem qbf [Dfr] (x0 : Tc) (x1 : Tc) : zab (fun k => run E k 76 (x0, x1)) (zsx x0 x1) := .run _ _
/-! redress/mean.paired -/
noncomputable def zgj [Dfr] (x0 : List Nd) : Option (List (Tc × Tc)) := lim fun k => run E k 77 x0
theorem zfj [Dfr] (x0 : List Nd) : zab (fun k => run E k 77 x0) (zgj x0) := .run _ _
noncomputable def zmk [Dfr] (y0 : List Nd) (y4 : List (Tc × Tc)) (y90 : List Tc) (y91 : Int) (y92 : Int) : Option (Nat × (List (Tc × Tc))) := lim fun k => lp E 77 1 k k (y0, y4, y90, y91, y92)
theorem zui [Dfr] (y0 : List Nd) (y4 : List (Tc × Tc)) (y90 : List Tc) (y91 : Int) (y92 : Int) : zab (fun k => lp E 77 1 k k (y0, y4, y90, y91, y92)) (zmk y0 y4 y90 y91 y92) := .lp _ _ _
/-! redress/trace.Set -/
noncomputable def zgw [Dfr] (x0 : List Tc) : Option (List Tc) := lim fun k => run E k 78 x0
theorem zei [Dfr] (x0 : List Tc) : zab (fun k => run E k 78 x0) (zgw x0) := .run _ _
/-! redress/redressref02.Row -/
noncomputable def qgs [Dfr] (x0 : List ByteArray) (x1 : List ByteArray) : Option (Int) := lim fun k => run E k 79 (x0, x1)
theorem qwl [Dfr] (x0 : List ByteArray) (x1 : List ByteArray) : zab (fun k => run E k 79 (x0, x1)) (qgs x0 x1) := .run _ _
noncomputable def zpu [Dfr] (y0 : List ByteArray) (y1 : List ByteArray) (y4 : Int) (y5 : Int) : Option (Nat × (List ByteArray × List ByteArray × Int)) := lim fun k => lp E 79 0 k k (y0, y1, y4, y5)
theorem zzf [Dfr] (y0 : List ByteArray) (y1 : List ByteArray) (y4 : Int) (y5 : Int) : zab (fun k => lp E 79 0 k k (y0, y1, y4, y5)) (zpu y0 y1 y4 y5) := .lp _ _ _
/-! redress/redressref03.Arity -/
noncomputable def zsq [Dfr] (x0 : Int) : Option (Int) := lim fun k => run E k 80 x0
theorem qaq [Dfr] (x0 : Int) : zab (fun k => run E k 80 x0) (zsq x0) := .run _ _
/-! redress/row.Arity -/
noncomputable def zns [Dfr] (x0 : Int) : Option (Int) := lim fun k => run E k 81 x0
theorem zrs [Dfr] (x0 : Int) : zab (fun k => run E k 81 x0) (zns x0) := .run _ _
/-! slices.Index[[]redress/api.Move,redress/api.Move] -/
noncomputable def zjq [Dfr] (x0 : List Mv) (x1 : Mv) : Option (Int) := lim fun k => run E k 82 (x0, x1)
theorem zti [Dfr] (x0 : List Mv) (x1 : Mv) : zab (fun k => run E k 82 (x0, x1)) (zjq x0 x1) := .run _ _
noncomputable def zdk [Dfr] (y0 : List Mv) (y3 : Mv) (y4 : Int) (y7 : Int) (y8 : Int) : Option (Nat × Int) := lim fun k => lp E 82 0 k k (y0, y3, y4, y7, y8)
theorem zjc [Dfr] (y0 : List Mv) (y3 : Mv) (y4 : Int) (y7 : Int) (y8 : Int) : zab (fun k => lp E 82 0 k k (y0, y3, y4, y7, y8)) (zdk y0 y3 y4 y7 y8) := .lp _ _ _
/-! redress/settle.over -/
noncomputable def zmp [Dfr] (x0 : Int) : Option (List Nd) := lim fun k => run E k 83 x0
theorem znp [Dfr] (x0 : Int) : zab (fun k => run E k 83 x0) (zmp x0) := .run _ _
/-! redress/settle.behind -/
noncomputable def zrq [Dfr] (x0 : Nd) (x1 : List Nd) (x2 : List Nd) (x3 : Int) : Option (List Nd) := lim fun k => run E k 84 (x0, x1, x2, x3)
theorem zwm [Dfr] (x0 : Nd) (x1 : List Nd) (x2 : List Nd) (x3 : Int) : zab (fun k => run E k 84 (x0, x1, x2, x3)) (zrq x0 x1 x2 x3) := .run _ _
/-! redress/settle.stack -/
noncomputable def zpr [Dfr] (x0 : List Nd) (x1 : List Nd) : Option (List Nd) := lim fun k => run E k 85 (x0, x1)
theorem zzc [Dfr] (x0 : List Nd) (x1 : List Nd) : zab (fun k => run E k 85 (x0, x1)) (zpr x0 x1) := .run _ _
/-! redress/settle.Ended -/
noncomputable def zps [Dfr] (x0 : List Nd) : Option (Int × Bool) := lim fun k => run E k 86 x0
theorem qlh [Dfr] (x0 : List Nd) : zab (fun k => run E k 86 x0) (zps x0) := .run _ _
/-! redress/settle.end -/
noncomputable def zlf [Dfr] (x0 : Int) (x1 : List Nd) : Option (List Nd) := lim fun k => run E k 87 (x0, x1)
theorem zmg [Dfr] (x0 : Int) (x1 : List Nd) : zab (fun k => run E k 87 (x0, x1)) (zlf x0 x1) := .run _ _
/-! redress/settle.par -/
noncomputable def qch [Dfr] (x0 : Nd) (x1 : List Nd) (x2 : List Nd) : Option (List Nd) := lim fun k => run E k 88 (x0, x1, x2)
theorem qrp [Dfr] (x0 : Nd) (x1 : List Nd) (x2 : List Nd) : zab (fun k => run E k 88 (x0, x1, x2)) (qch x0 x1 x2) := .run _ _
/-! redress/settle.block -/
noncomputable def qai [Dfr] (x0 : Nd) (x1 : List Nd) : Option (List Nd) := lim fun k => run E k 89 (x0, x1)
theorem qlf [Dfr] (x0 : Nd) (x1 : List Nd) : zab (fun k => run E k 89 (x0, x1)) (qai x0 x1) := .run _ _
/-! slices.Clone[[]redress/api.Node,redress/api.Node] -/
noncomputable def zev [Dfr] (x0 : List Nd) : Option (List Nd) := lim fun k => run E k 90 x0
theorem zts [Dfr] (x0 : List Nd) : zab (fun k => run E k 90 x0) (zev x0) := .run _ _
/-! slices.Concat[[]redress/api.Node,redress/api.Node] -/
noncomputable def zga [Dfr] (x0 : List (List Nd)) : Option (List Nd) := lim fun k => run E k 91 x0
theorem zsk [Dfr] (x0 : List (List Nd)) : zab (fun k => run E k 91 x0) (zga x0) := .run _ _
noncomputable def zcv [Dfr] (y0 : List (List Nd)) (y3 : Int) (y9 : List (List Nd)) (y10 : Int) (y11 : Int) : Option (Nat × (List (List Nd) × Int)) := lim fun k => lp E 91 0 k k (y0, y3, y9, y10, y11)
theorem zim [Dfr] (y0 : List (List Nd)) (y3 : Int) (y9 : List (List Nd)) (y10 : Int) (y11 : Int) : zab (fun k => lp E 91 0 k k (y0, y3, y9, y10, y11)) (zcv y0 y3 y9 y10 y11) := .lp _ _ _
noncomputable def zcu [Dfr] (y6 : List Nd) (y25 : List (List Nd)) (y26 : Int) (y27 : Int) : Option (Nat × List Nd) := lim fun k => lp E 91 2 k k (y6, y25, y26, y27)
theorem zil [Dfr] (y6 : List Nd) (y25 : List (List Nd)) (y26 : Int) (y27 : Int) : zab (fun k => lp E 91 2 k k (y6, y25, y26, y27)) (zcu y6 y25 y26 y27) := .lp _ _ _
/-! redress/row.Whole$1 -/
noncomputable def qem [Dfr] (x0 : Nd) : Option (Bool) := lim fun k => run E k 100 x0
/-! redress/row.Right -/
noncomputable def qgo [Dfr] (x0 : Nd) : Option (Bool) := lim fun k => run E k 101 x0
theorem qwe [Dfr] (x0 : Nd) : zab (fun k => run E k 101 x0) (qgo x0) := .run _ _
/-! slices.ContainsFunc[[]redress/api.Node,redress/api.Node] -/
noncomputable def zdv [Dfr] (x0 : List Nd) (x1 : FnV) : Option (Bool) := lim fun k => run E k 102 (x0, x1)
theorem znn [Dfr] (x0 : List Nd) (x1 : FnV) : zab (fun k => run E k 102 (x0, x1)) (zdv x0 x1) := .run _ _
/-! redress/sort.both -/
noncomputable def qab [Dfr] (x0 : Int) (x1 : Int) : Option (Int) := lim fun k => run E k 103 (x0, x1)
theorem qfx [Dfr] (x0 : Int) (x1 : Int) : zab (fun k => run E k 103 (x0, x1)) (qab x0 x1) := .run _ _
/-! redress/sort.behind -/
noncomputable def zon [Dfr] (x0 : Int) (x1 : Int) (x2 : Int) : Option (Int) := lim fun k => run E k 104 (x0, x1, x2)
theorem zse [Dfr] (x0 : Int) (x1 : Int) (x2 : Int) : zab (fun k => run E k 104 (x0, x1, x2)) (zon x0 x1 x2) := .run _ _
/-! slices.Index[[]int,int] -/
noncomputable def zoo [Dfr] (x0 : List Int) (x1 : Int) : Option (Int) := lim fun k => run E k 105 (x0, x1)
theorem qad [Dfr] (x0 : List Int) (x1 : Int) : zab (fun k => run E k 105 (x0, x1)) (zoo x0 x1) := .run _ _
noncomputable def zfu [Dfr] (y0 : List Int) (y1 : Int) (y4 : Int) (y7 : Int) (y8 : Int) : Option (Nat × Int) := lim fun k => lp E 105 0 k k (y0, y1, y4, y7, y8)
theorem zmy [Dfr] (y0 : List Int) (y1 : Int) (y4 : Int) (y7 : Int) (y8 : Int) : zab (fun k => lp E 105 0 k k (y0, y1, y4, y7, y8)) (zfu y0 y1 y4 y7 y8) := .lp _ _ _
/-! redress/doom.beside -/
noncomputable def zyu [Dfr] (x0 : List Nd) (x1 : Int) : Option (List (List Nd) × Bool) := lim fun k => run E k 106 (x0, x1)
theorem qqh [Dfr] (x0 : List Nd) (x1 : Int) : zab (fun k => run E k 106 (x0, x1)) (zyu x0 x1) := .run _ _
noncomputable def zjn [Dfr] (y0 : List Nd) (y1 : Int) (y4 : List (List Nd)) (y5 : Bool) (y19 : List Int) (y20 : Int) (y21 : Int) : Option (Nat × (List (List Nd) × Bool)) := lim fun k => lp E 106 0 k k (y0, y1, y4, y5, y19, y20, y21)
theorem zoc [Dfr] (y0 : List Nd) (y1 : Int) (y4 : List (List Nd)) (y5 : Bool) (y19 : List Int) (y20 : Int) (y21 : Int) : zab (fun k => lp E 106 0 k k (y0, y1, y4, y5, y19, y20, y21)) (zjn y0 y1 y4 y5 y19 y20 y21) := .lp _ _ _
/-! slices.ContainsFunc[[][]redress/api.Node,[]redress/api.Node] -/
noncomputable def zdc [Dfr] (x0 : List (List Nd)) (x1 : FnV) : Option (Bool) := lim fun k => run E k 107 (x0, x1)
theorem znf [Dfr] (x0 : List (List Nd)) (x1 : FnV) : zab (fun k => run E k 107 (x0, x1)) (zdc x0 x1) := .run _ _
/-! redress/doom.Doomed -/
noncomputable def zte [Dfr] (x0 : List Nd) : Option (Bool) := lim fun k => run E k 108 x0
/-! slices.IndexFunc[[]int,int] -/
noncomputable def zkj [Dfr] (x0 : List Int) (x1 : FnV) : Option (Int) := lim fun k => run E k 109 (x0, x1)
theorem zuy [Dfr] (x0 : List Int) (x1 : FnV) : zab (fun k => run E k 109 (x0, x1)) (zkj x0 x1) := .run _ _
noncomputable def zdx [Dfr] (y0 : List Int) (y1 : FnV) (y4 : Int) (y7 : Int) (y8 : Int) : Option (Nat × Int) := lim fun k => lp E 109 0 k k (y0, y1, y4, y7, y8)
theorem zjv [Dfr] (y0 : List Int) (y1 : FnV) (y4 : Int) (y7 : Int) (y8 : Int) : zab (fun k => lp E 109 0 k k (y0, y1, y4, y7, y8)) (zdx y0 y1 y4 y7 y8) := .lp _ _ _
/-! slices.Clone[[]string,string] -/
noncomputable def zhs [Dfr] (x0 : List ByteArray) : Option (List ByteArray) := lim fun k => run E k 111 x0
theorem zwj [Dfr] (x0 : List ByteArray) : zab (fun k => run E k 111 x0) (zhs x0) := .run _ _
/-! slices.Concat[[]string,string] -/
noncomputable def zhb [Dfr] (x0 : List (List ByteArray)) : Option (List ByteArray) := lim fun k => run E k 112 x0
theorem zvd [Dfr] (x0 : List (List ByteArray)) : zab (fun k => run E k 112 x0) (zhb x0) := .run _ _
noncomputable def zdz [Dfr] (y0 : List (List ByteArray)) (y3 : Int) (y9 : List (List ByteArray)) (y10 : Int) (y11 : Int) : Option (Nat × (List (List ByteArray) × Int)) := lim fun k => lp E 112 0 k k (y0, y3, y9, y10, y11)
theorem zjy [Dfr] (y0 : List (List ByteArray)) (y3 : Int) (y9 : List (List ByteArray)) (y10 : Int) (y11 : Int) : zab (fun k => lp E 112 0 k k (y0, y3, y9, y10, y11)) (zdz y0 y3 y9 y10 y11) := .lp _ _ _
noncomputable def zdy [Dfr] (y6 : List ByteArray) (y25 : List (List ByteArray)) (y26 : Int) (y27 : Int) : Option (Nat × List ByteArray) := lim fun k => lp E 112 2 k k (y6, y25, y26, y27)
theorem zjx [Dfr] (y6 : List ByteArray) (y25 : List (List ByteArray)) (y26 : Int) (y27 : Int) : zab (fun k => lp E 112 2 k k (y6, y25, y26, y27)) (zdy y6 y25 y26 y27) := .lp _ _ _
/-! slices.Grow[[]redress/trace.Trace,redress/trace.Trace] -/
noncomputable def zfn [Dfr] (x0 : Unit) (x1 : Int) : Option (List Tc) := lim fun k => run E k 113 (x0, x1)
theorem zrj [Dfr] (x0 : Unit) (x1 : Int) : zab (fun k => run E k 113 (x0, x1)) (zfn x0 x1) := .run _ _
/-! redress/sign.Both -/
noncomputable def qah [Dfr] (x0 : Int) (x1 : Int) : Option (Int) := lim fun k => run E k 114 (x0, x1)
theorem qgd [Dfr] (x0 : Int) (x1 : Int) : zab (fun k => run E k 114 (x0, x1)) (qah x0 x1) := .run _ _
/-! redress/trace.Mix -/
noncomputable def qfn [Dfr] (x0 : List ByteArray) (x1 : List ByteArray) : Option (List (List ByteArray)) := lim fun k => run E k 115 (x0, x1)
theorem qva [Dfr] (x0 : List ByteArray) (x1 : List ByteArray) : zab (fun k => run E k 115 (x0, x1)) (qfn x0 x1) := .run _ _
/-! redress/mean.going -/
noncomputable def zwz [Dfr] (x0 : List Tc) (x1 : List Tc) : Option (List (Tc × Tc)) := lim fun k => run E k 116 (x0, x1)
theorem qds [Dfr] (x0 : List Tc) (x1 : List Tc) : zab (fun k => run E k 116 (x0, x1)) (zwz x0 x1) := .run _ _
/-! redress/mean.cross[redress/mean.Pair,redress/mean.Pair,redress/mean.Pair] -/
noncomputable def zaw [Dfr] (x0 : List (Tc × Tc)) (x1 : List (Tc × Tc)) (x2 : FnV) : Option (List (Tc × Tc)) := lim fun k => run E k 117 (x0, x1, x2)
theorem zeb [Dfr] (x0 : List (Tc × Tc)) (x1 : List (Tc × Tc)) (x2 : FnV) : zab (fun k => run E k 117 (x0, x1, x2)) (zaw x0 x1 x2) := .run _ _
noncomputable def zas [Dfr] (y1 : List (Tc × Tc)) (y2 : FnV) (y7 : List (Tc × Tc)) (y9 : Tc × Tc) (y12 : List (Tc × Tc)) (y13 : Int) (y14 : Int) (y18 : List (Tc × Tc)) (y19 : Int) (y20 : Int) : Option (Nat × ((List (Tc × Tc)) × FnV × (List (Tc × Tc)) × (List (Tc × Tc)) × Int × Int)) := lim fun k => lp E 117 2 k k (y1, y2, y7, y9, y12, y13, y14, y18, y19, y20)
theorem zdf [Dfr] (y1 : List (Tc × Tc)) (y2 : FnV) (y7 : List (Tc × Tc)) (y9 : Tc × Tc) (y12 : List (Tc × Tc)) (y13 : Int) (y14 : Int) (y18 : List (Tc × Tc)) (y19 : Int) (y20 : Int) : zab (fun k => lp E 117 2 k k (y1, y2, y7, y9, y12, y13, y14, y18, y19, y20)) (zas y1 y2 y7 y9 y12 y13 y14 y18 y19 y20) := .lp _ _ _
noncomputable def zat [Dfr] (y1 : List (Tc × Tc)) (y2 : FnV) (y7 : List (Tc × Tc)) (y12 : List (Tc × Tc)) (y13 : Int) (y14 : Int) : Option (Nat × (List (Tc × Tc))) := lim fun k => lp E 117 0 k k (y1, y2, y7, y12, y13, y14)
theorem zdg [Dfr] (y1 : List (Tc × Tc)) (y2 : FnV) (y7 : List (Tc × Tc)) (y12 : List (Tc × Tc)) (y13 : Int) (y14 : Int) : zab (fun k => lp E 117 0 k k (y1, y2, y7, y12, y13, y14)) (zat y1 y2 y7 y12 y13 y14) := .lp _ _ _
/-! redress/mean.paired$1 -/
noncomputable def zyl [Dfr] (x0 : Tc × Tc) (x1 : Tc × Tc) : Option (List (Tc × Tc)) := lim fun k => run E k 118 (x0, x1)
/-! slices.Concat[[]redress/mean.Pair,redress/mean.Pair] -/
noncomputable def zfp [Dfr] (x0 : List (List (Tc × Tc))) : Option (List (Tc × Tc)) := lim fun k => run E k 119 x0
theorem zrn [Dfr] (x0 : List (List (Tc × Tc))) : zab (fun k => run E k 119 x0) (zfp x0) := .run _ _
noncomputable def zch [Dfr] (y0 : List (List (Tc × Tc))) (y3 : Int) (y9 : List (List (Tc × Tc))) (y10 : Int) (y11 : Int) : Option (Nat × ((List (List (Tc × Tc))) × Int)) := lim fun k => lp E 119 0 k k (y0, y3, y9, y10, y11)
theorem zhw [Dfr] (y0 : List (List (Tc × Tc))) (y3 : Int) (y9 : List (List (Tc × Tc))) (y10 : Int) (y11 : Int) : zab (fun k => lp E 119 0 k k (y0, y3, y9, y10, y11)) (zch y0 y3 y9 y10 y11) := .lp _ _ _
noncomputable def zcg [Dfr] (y6 : List (Tc × Tc)) (y25 : List (List (Tc × Tc))) (y26 : Int) (y27 : Int) : Option (Nat × (List (Tc × Tc))) := lim fun k => lp E 119 2 k k (y6, y25, y26, y27)
theorem zhv [Dfr] (y6 : List (Tc × Tc)) (y25 : List (List (Tc × Tc))) (y26 : Int) (y27 : Int) : zab (fun k => lp E 119 2 k k (y6, y25, y26, y27)) (zcg y6 y25 y26 y27) := .lp _ _ _
/-! redress/mean.paired$2 -/
noncomputable def zyk [Dfr] (x0 : Tc × Tc) (x1 : Tc × Tc) : Option (List (Tc × Tc)) := lim fun k => run E k 120 (x0, x1)
/-! redress/mean.cross[redress/trace.Trace,redress/trace.Trace,redress/mean.Pair] -/
noncomputable def zaq [Dfr] (x0 : List Tc) (x1 : List Tc) (x2 : FnV) : Option (List (Tc × Tc)) := lim fun k => run E k 121 (x0, x1, x2)
theorem zcw [Dfr] (x0 : List Tc) (x1 : List Tc) (x2 : FnV) : zab (fun k => run E k 121 (x0, x1, x2)) (zaq x0 x1 x2) := .run _ _
noncomputable def zak [Dfr] (y1 : List Tc) (y2 : FnV) (y7 : List (Tc × Tc)) (y9 : Tc) (y12 : List Tc) (y13 : Int) (y14 : Int) (y18 : List Tc) (y19 : Int) (y20 : Int) : Option (Nat × (List Tc × FnV × (List (Tc × Tc)) × List Tc × Int × Int)) := lim fun k => lp E 121 2 k k (y1, y2, y7, y9, y12, y13, y14, y18, y19, y20)
theorem zcd [Dfr] (y1 : List Tc) (y2 : FnV) (y7 : List (Tc × Tc)) (y9 : Tc) (y12 : List Tc) (y13 : Int) (y14 : Int) (y18 : List Tc) (y19 : Int) (y20 : Int) : zab (fun k => lp E 121 2 k k (y1, y2, y7, y9, y12, y13, y14, y18, y19, y20)) (zak y1 y2 y7 y9 y12 y13 y14 y18 y19 y20) := .lp _ _ _
noncomputable def zal [Dfr] (y1 : List Tc) (y2 : FnV) (y7 : List (Tc × Tc)) (y12 : List Tc) (y13 : Int) (y14 : Int) : Option (Nat × (List (Tc × Tc))) := lim fun k => lp E 121 0 k k (y1, y2, y7, y12, y13, y14)
theorem zce [Dfr] (y1 : List Tc) (y2 : FnV) (y7 : List (Tc × Tc)) (y12 : List Tc) (y13 : Int) (y14 : Int) : zab (fun k => lp E 121 0 k k (y1, y2, y7, y12, y13, y14)) (zal y1 y2 y7 y12 y13 y14) := .lp _ _ _
/-! redress/mean.paired$2$1 -/
noncomputable def qbc [Dfr] (x0 : Tc) (x1 : Tc) : Option (List (Tc × Tc)) := lim fun k => run E k 122 (x0, x1)
/-! redress/mean.cross[redress/mean.Pair,redress/trace.Trace,redress/mean.Pair] -/
noncomputable def zba [Dfr] (x0 : List (Tc × Tc)) (x1 : List Tc) (x2 : FnV) : Option (List (Tc × Tc)) := lim fun k => run E k 123 (x0, x1, x2)
theorem zhl [Dfr] (x0 : List (Tc × Tc)) (x1 : List Tc) (x2 : FnV) : zab (fun k => run E k 123 (x0, x1, x2)) (zba x0 x1 x2) := .run _ _
noncomputable def zan [Dfr] (y1 : List Tc) (y2 : FnV) (y7 : List (Tc × Tc)) (y9 : Tc × Tc) (y12 : List (Tc × Tc)) (y13 : Int) (y14 : Int) (y18 : List Tc) (y19 : Int) (y20 : Int) : Option (Nat × (List Tc × FnV × (List (Tc × Tc)) × (List (Tc × Tc)) × Int × Int)) := lim fun k => lp E 123 2 k k (y1, y2, y7, y9, y12, y13, y14, y18, y19, y20)
theorem zcq [Dfr] (y1 : List Tc) (y2 : FnV) (y7 : List (Tc × Tc)) (y9 : Tc × Tc) (y12 : List (Tc × Tc)) (y13 : Int) (y14 : Int) (y18 : List Tc) (y19 : Int) (y20 : Int) : zab (fun k => lp E 123 2 k k (y1, y2, y7, y9, y12, y13, y14, y18, y19, y20)) (zan y1 y2 y7 y9 y12 y13 y14 y18 y19 y20) := .lp _ _ _
noncomputable def zao [Dfr] (y1 : List Tc) (y2 : FnV) (y7 : List (Tc × Tc)) (y12 : List (Tc × Tc)) (y13 : Int) (y14 : Int) : Option (Nat × (List (Tc × Tc))) := lim fun k => lp E 123 0 k k (y1, y2, y7, y12, y13, y14)
theorem zcr [Dfr] (y1 : List Tc) (y2 : FnV) (y7 : List (Tc × Tc)) (y12 : List (Tc × Tc)) (y13 : Int) (y14 : Int) : zab (fun k => lp E 123 0 k k (y1, y2, y7, y12, y13, y14)) (zao y1 y2 y7 y12 y13 y14) := .lp _ _ _
/-! redress/mean.paired$3 -/
noncomputable def zyj [Dfr] (x0 : Tc × Tc) (x1 : Tc) : Option (List (Tc × Tc)) := lim fun k => run E k 124 (x0, x1)
/-! redress/mean.set -/
noncomputable def znx [Dfr] (x0 : List (Tc × Tc)) : Option (List (Tc × Tc)) := lim fun k => run E k 125 x0
theorem zio [Dfr] (x0 : List (Tc × Tc)) : zab (fun k => run E k 125 x0) (znx x0) := .run _ _
/-! slices.Clone[[]redress/trace.Trace,redress/trace.Trace] -/
noncomputable def zfc [Dfr] (x0 : List Tc) : Option (List Tc) := lim fun k => run E k 126 x0
theorem zqm [Dfr] (x0 : List Tc) : zab (fun k => run E k 126 x0) (zfc x0) := .run _ _
/-! (redress/trace.Trace).compare -/
noncomputable def zey [Dfr] (x0 : Tc) (x1 : Tc) : Option (Int) := lim fun k => run E k 128 (x0, x1)
theorem znj [Dfr] (x0 : Tc) (x1 : Tc) : zab (fun k => run E k 128 (x0, x1)) (zey x0 x1) := .run _ _
/-! redress/trace.Set$1 -/
noncomputable def qef [Dfr] (x0 : Tc) (x1 : Tc) : Option (Bool) := lim fun k => run E k 130 (x0, x1)
/-! slices.Grow[[]redress/api.Node,redress/api.Node] -/
noncomputable def zgy [Dfr] (x0 : Unit) (x1 : Int) : Option (List Nd) := lim fun k => run E k 131 (x0, x1)
theorem zva [Dfr] (x0 : Unit) (x1 : Int) : zab (fun k => run E k 131 (x0, x1)) (zgy x0 x1) := .run _ _
/-! redress/row.named -/
noncomputable def qgm [Dfr] (x0 : ByteArray) : Option (Bool) := lim fun k => run E k 145 x0
theorem qvz [Dfr] (x0 : ByteArray) : zab (fun k => run E k 145 x0) (qgm x0) := .run _ _
/-! slices.IndexFunc[[]redress/api.Node,redress/api.Node] -/
noncomputable def zgs [Dfr] (x0 : List Nd) (x1 : FnV) : Option (Int) := lim fun k => run E k 146 (x0, x1)
theorem zpn [Dfr] (x0 : List Nd) (x1 : FnV) : zab (fun k => run E k 146 (x0, x1)) (zgs x0 x1) := .run _ _
noncomputable def zbs [Dfr] (y0 : List Nd) (y1 : FnV) (y4 : Int) (y7 : Int) (y8 : Int) : Option (Nat × Int) := lim fun k => lp E 146 0 k k (y0, y1, y4, y7, y8)
theorem zgx [Dfr] (y0 : List Nd) (y1 : FnV) (y4 : Int) (y7 : Int) (y8 : Int) : zab (fun k => lp E 146 0 k k (y0, y1, y4, y7, y8)) (zbs y0 y1 y4 y7 y8) := .lp _ _ _
/-! slices.IndexFunc[[][]redress/api.Node,[]redress/api.Node] -/
noncomputable def zgh [Dfr] (x0 : List (List Nd)) (x1 : FnV) : Option (Int) := lim fun k => run E k 148 (x0, x1)
theorem zop [Dfr] (x0 : List (List Nd)) (x1 : FnV) : zab (fun k => run E k 148 (x0, x1)) (zgh x0 x1) := .run _ _
noncomputable def zbl [Dfr] (y0 : List (List Nd)) (y1 : FnV) (y4 : Int) (y7 : Int) (y8 : Int) : Option (Nat × Int) := lim fun k => lp E 148 0 k k (y0, y1, y4, y7, y8)
theorem zgq [Dfr] (y0 : List (List Nd)) (y1 : FnV) (y4 : Int) (y7 : Int) (y8 : Int) : zab (fun k => lp E 148 0 k k (y0, y1, y4, y7, y8)) (zbl y0 y1 y4 y7 y8) := .lp _ _ _
/-! redress/doom.doomed -/
noncomputable def zja [Dfr] (x0 : List Nd) : Option (Bool) := lim fun k => run E k 149 x0
theorem zib [Dfr] (x0 : List Nd) : zab (fun k => run E k 149 x0) (zja x0) := .run _ _
/-! redress/plot.one -/
noncomputable def qgu [Dfr] (x0 : List Nd) : Option (Bool) := lim fun k => run E k 151 x0
theorem yab [Dfr] (x0 : List Nd) : zab (fun k => run E k 151 x0) (qgu x0) := .run _ _
/-! slices.Grow[[]string,string] -/
noncomputable def ziu [Dfr] (x0 : Unit) (x1 : Int) : Option (List ByteArray) := lim fun k => run E k 152 (x0, x1)
theorem zxu [Dfr] (x0 : Unit) (x1 : Int) : zab (fun k => run E k 152 (x0, x1)) (ziu x0 x1) := .run _ _
/-! redress/sign.Is -/
noncomputable def qnx [Dfr] (x0 : Int) : Option (Bool) := lim fun k => run E k 153 x0
theorem qnw [Dfr] (x0 : Int) : zab (fun k => run E k 153 x0) (qnx x0) := .run _ _
/-! slices.Compare[[]string,string] -/
noncomputable def zeu [Dfr] (x0 : List ByteArray) (x1 : List ByteArray) : Option (Int) := lim fun k => run E k 156 (x0, x1)
theorem ztq [Dfr] (x0 : List ByteArray) (x1 : List ByteArray) : zab (fun k => run E k 156 (x0, x1)) (zeu x0 x1) := .run _ _
noncomputable def zdm [Dfr] (y0 : List ByteArray) (y1 : List ByteArray) (y4 : Int) (y9 : List ByteArray) (y10 : Int) (y11 : Int) : Option (Nat × (List ByteArray × List ByteArray × Int)) := lim fun k => lp E 156 0 k k (y0, y1, y4, y9, y10, y11)
theorem zjg [Dfr] (y0 : List ByteArray) (y1 : List ByteArray) (y4 : Int) (y9 : List ByteArray) (y10 : Int) (y11 : Int) : zab (fun k => lp E 156 0 k k (y0, y1, y4, y9, y10, y11)) (zdm y0 y1 y4 y9 y10 y11) := .lp _ _ _
/-! slices.Equal[[]string,string] -/
noncomputable def zlw [Dfr] (x0 : List ByteArray) (x1 : List ByteArray) : Option (Bool) := lim fun k => run E k 158 (x0, x1)
noncomputable def zel [Dfr] (y0 : List ByteArray) (y1 : List ByteArray) (y4 : Bool) (y12 : Int) (y13 : Int) : Option (Nat × Bool) := lim fun k => lp E 158 0 k k (y0, y1, y4, y12, y13)
theorem zkk [Dfr] (y0 : List ByteArray) (y1 : List ByteArray) (y4 : Bool) (y12 : Int) (y13 : Int) : zab (fun k => lp E 158 0 k k (y0, y1, y4, y12, y13)) (zel y0 y1 y4 y12 y13) := .lp _ _ _
/-! redress/mean.going$1 -/
noncomputable def qbe [Dfr] (x0 : Tc) (x1 : Tc) : Option (List (Tc × Tc)) := lim fun k => run E k 159 (x0, x1)
/-! slices.Grow[[]redress/mean.Pair,redress/mean.Pair] -/
noncomputable def zgk [Dfr] (x0 : Unit) (x1 : Int) : Option (List (Tc × Tc)) := lim fun k => run E k 160 (x0, x1)
theorem ztk [Dfr] (x0 : Unit) (x1 : Int) : zab (fun k => run E k 160 (x0, x1)) (zgk x0 x1) := .run _ _
/-! redress/mean.set$1 -/
noncomputable def qiy [Dfr] (x0 : Tc × Tc) (x1 : Tc × Tc) : Option (Int) := lim fun k => run E k 161 (x0, x1)
/-! cmp.Or[int] -/
noncomputable def ztf [Dfr] (x0 : List Int) : Option (Int) := lim fun k => run E k 162 x0
theorem qby [Dfr] (x0 : List Int) : zab (fun k => run E k 162 x0) (ztf x0) := .run _ _
noncomputable def zpj [Dfr] (y2 : Int) (y3 : Int) (y6 : List Int) (y7 : Int) (y8 : Int) : Option (Nat × (Int × Int)) := lim fun k => lp E 162 0 k k (y2, y3, y6, y7, y8)
theorem zup [Dfr] (y2 : Int) (y3 : Int) (y6 : List Int) (y7 : Int) (y8 : Int) : zab (fun k => lp E 162 0 k k (y2, y3, y6, y7, y8)) (zpj y2 y3 y6 y7 y8) := .lp _ _ _
/-! redress/trace.Compare -/
noncomputable def znk [Dfr] (x0 : Tc) (x1 : Tc) : Option (Int) := lim fun k => run E k 163 (x0, x1)
theorem zvx [Dfr] (x0 : Tc) (x1 : Tc) : zab (fun k => run E k 163 (x0, x1)) (znk x0 x1) := .run _ _
/-! redress/mean.set$2 -/
noncomputable def qix [Dfr] (x0 : Tc × Tc) (x1 : Tc × Tc) (x2 : Nat) : Option (Bool) := lim fun k => run E k 166 (x0, x1, x2)
/-! cmp.Compare[int] -/
noncomputable def zmo [Dfr] (x0 : Int) (x1 : Int) : Option (Int) := lim fun k => run E k 169 (x0, x1)
theorem qdd [Dfr] (x0 : Int) (x1 : Int) : zab (fun k => run E k 169 (x0, x1)) (zmo x0 x1) := .run _ _
/-! strings.Trim -/
noncomputable def ztx [Dfr] (x0 : ByteArray) (x1 : ByteArray) : Option (ByteArray) := lim fun k => run E k 174 (x0, x1)
theorem qlb [Dfr] (x0 : ByteArray) (x1 : ByteArray) : zab (fun k => run E k 174 (x0, x1)) (ztx x0 x1) := .run _ _
/-! slices.Contains[[]string,string] -/
noncomputable def zfz [Dfr] (x0 : List ByteArray) (x1 : ByteArray) : Option (Bool) := lim fun k => run E k 175 (x0, x1)
theorem zsg [Dfr] (x0 : List ByteArray) (x1 : ByteArray) : zab (fun k => run E k 175 (x0, x1)) (zfz x0 x1) := .run _ _
/-! cmp.Compare[string] -/
noncomputable def zjb [Dfr] (x0 : ByteArray) (x1 : ByteArray) : Option (Int) := lim fun k => run E k 177 (x0, x1)
theorem zyw [Dfr] (x0 : ByteArray) (x1 : ByteArray) : zab (fun k => run E k 177 (x0, x1)) (zjb x0 x1) := .run _ _
/-! cmp.isNaN[int] -/
noncomputable def zpi [Dfr] (x0 : Int) : Option (Bool) := lim fun k => run E k 189 x0
theorem zuo [Dfr] (x0 : Int) : zab (fun k => run E k 189 x0) (zpi x0) := .run _ _
/-! slices.Index[[]string,string] -/
noncomputable def zlv [Dfr] (x0 : List ByteArray) (x1 : ByteArray) : Option (Int) := lim fun k => run E k 197 (x0, x1)
theorem zwc [Dfr] (x0 : List ByteArray) (x1 : ByteArray) : zab (fun k => run E k 197 (x0, x1)) (zlv x0 x1) := .run _ _
noncomputable def zej [Dfr] (y0 : List ByteArray) (y1 : ByteArray) (y4 : Int) (y7 : Int) (y8 : Int) : Option (Nat × Int) := lim fun k => lp E 197 0 k k (y0, y1, y4, y7, y8)
theorem zki [Dfr] (y0 : List ByteArray) (y1 : ByteArray) (y4 : Int) (y7 : Int) (y8 : Int) : zab (fun k => lp E 197 0 k k (y0, y1, y4, y7, y8)) (zej y0 y1 y4 y7 y8) := .lp _ _ _
/-! cmp.isNaN[string] -/
noncomputable def zlo [Dfr] (x0 : ByteArray) : Option (Bool) := lim fun k => run E k 206 x0
theorem zqe [Dfr] (x0 : ByteArray) : zab (fun k => run E k 206 x0) (zlo x0) := .run _ _
end Go.Proofs.YtjogkjgpbeenfaaGreatDoor.Sv
