/- What is asked of the functions whose contracts are proved by hand holds: the seat's contracts, whole. -/
import Derived.Test.YtjogkjgpbeenfaaGreatDoorX13
import Derived.Test.YtjogkjgpbeenfaaGreatDoorW11
import Derived.Test.YtjogkjgpbeenfaaGreatDoorX02
import Derived.Test.YtjogkjgpbeenfaaGreatDoorX14
import Derived.Test.YtjogkjgpbeenfaaGreatDoorX19
namespace Go.Proofs.YtjogkjgpbeenfaaGreatDoor.Sv
open Go Go.Sv Go.Proofs Go.Rd
set_option linter.unusedVariables false
set_option maxRecDepth 100000
@[reducible] def dfr0 : Dfr where
  d_plot_Over := fun _ _ => none
  d_trace_Mix := fun _ _ => none
  d_move_ways := none
  d_step_Put := fun _ _ _ => none
theorem ygu : zbi Tryz.prog 65 := ⟨Tryz.f65, Tryz.func65, by kernel_rfl, by kernel_rfl⟩
theorem yoc : zbi Tryz.prog 115 := ⟨Tryz.f115, Tryz.func115, by kernel_rfl, by kernel_rfl⟩
theorem ygt : zbi Tryz.prog 37 := ⟨Tryz.f37, Tryz.func37, by kernel_rfl, by kernel_rfl⟩
theorem yob : zbi Tryz.prog 23 := ⟨Tryz.f23, Tryz.func23, by kernel_rfl, by kernel_rfl⟩
theorem ok0 : @zqy dfr0 :=
  letI := dfr0
  {
  c_plot_Over := ⟨ygu, fun x r h => by cases h⟩
  c_trace_Mix := ⟨yoc, fun x r h => by cases h⟩
  c_move_ways := ⟨ygt, fun x r h => by cases h⟩
  c_step_Put := ⟨yob, fun x r h => by cases h⟩
  }
noncomputable instance topDfr : Dfr where
  d_plot_Over := qat
  d_trace_Mix := qgz
  d_move_ways := some tabW
  d_step_Put := qgt
instance topOK : zqy where
  c_plot_Over := ⟨ygu, fun x r h => qbu (@qwo dfr0 ok0 x.1 x.2 r h)⟩
  c_trace_Mix := ⟨yoc, fun x r h => qbu (@yao dfr0 ok0 x.1 x.2 r h)⟩
  c_move_ways := ⟨ygt, fun x r h => by cases h; exact @qus topDfr⟩
  c_step_Put := ⟨yob, fun x r h => qbu (@qzw dfr0 ok0 x.1 x.2.1 x.2.2 r h)⟩
instance topOver : zjt := ⟨fun _ _ => rfl⟩
instance topMix : qcc := ⟨fun _ _ => rfl⟩
instance topWays : zqx := ⟨rfl⟩
instance topPut : qkz := ⟨fun _ _ _ => rfl⟩
end Go.Proofs.YtjogkjgpbeenfaaGreatDoor.Sv
