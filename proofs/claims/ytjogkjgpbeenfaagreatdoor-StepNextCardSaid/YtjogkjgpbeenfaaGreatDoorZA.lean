/- What is asked of the functions whose contracts are proved by hand holds: the seat's contracts, whole. -/
-- NODFR
import Derived.Test.YtjogkjgpbeenfaaGreatDoorX13
import Derived.Test.YtjogkjgpbeenfaaGreatDoorW11
import Derived.Test.YtjogkjgpbeenfaaGreatDoorX02
import Derived.Test.YtjogkjgpbeenfaaGreatDoorX15
import Derived.Test.YtjogkjgpbeenfaaGreatDoorX19
namespace Go.Proofs.YtjogkjgpbeenfaaGreatDoor.Sv
open Go Go.Sv Go.Proofs Go.Rd
set_option linter.unusedVariables false
set_option maxRecDepth 100000
@[reducible] def dfr0 : Dfr where
  d_plot_Over := fun _ _ => none
  d_trace_Mix := fun _ _ => none
  d_move_ways := none
  d_step_Put := fun _ _ _ => none
theorem callOver : Callable Tryz.prog 65 := ⟨Tryz.f65, Tryz.func65, by kernel_rfl, by kernel_rfl⟩
theorem callMix : Callable Tryz.prog 115 := ⟨Tryz.f115, Tryz.func115, by kernel_rfl, by kernel_rfl⟩
theorem callWays : Callable Tryz.prog 37 := ⟨Tryz.f37, Tryz.func37, by kernel_rfl, by kernel_rfl⟩
theorem callPut : Callable Tryz.prog 23 := ⟨Tryz.f23, Tryz.func23, by kernel_rfl, by kernel_rfl⟩
theorem ok0 : @DfrOK dfr0 :=
  letI := dfr0
  {
  c_plot_Over := ⟨callOver, fun x r h => by cases h⟩
  c_trace_Mix := ⟨callMix, fun x r h => by cases h⟩
  c_move_ways := ⟨callWays, fun x r h => by cases h⟩
  c_step_Put := ⟨callPut, fun x r h => by cases h⟩
  }
noncomputable instance topDfr : Dfr where
  d_plot_Over := over_spec
  d_trace_Mix := mix_spec
  d_move_ways := some tabW
  d_step_Put := put_spec
instance topOK : DfrOK where
  c_plot_Over := ⟨callOver, fun x r h => contract_any (@over_contract dfr0 ok0 x.1 x.2 r h)⟩
  c_trace_Mix := ⟨callMix, fun x r h => contract_any (@mix_contract dfr0 ok0 x.1 x.2 r h)⟩
  c_move_ways := ⟨callWays, fun x r h => by cases h; exact @ways_contract topDfr⟩
  c_step_Put := ⟨callPut, fun x r h => contract_any (@put_contract dfr0 ok0 x.1 x.2.1 x.2.2 r h)⟩
instance topOver : HasOver := ⟨fun _ _ => rfl⟩
instance topMix : HasMix := ⟨fun _ _ => rfl⟩
instance topWays : HasWays := ⟨rfl⟩
instance topPut : HasPut := ⟨fun _ _ _ => rfl⟩
end Go.Proofs.YtjogkjgpbeenfaaGreatDoor.Sv
