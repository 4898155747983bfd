/- What is asked of the functions whose contracts are proved by hand holds: the seat's contracts, whole. -/
-- NODFR
import Derived.Test.YtgogodeknkoalaaGreatDoorX13
import Derived.Test.YtgogodeknkoalaaGreatDoorW11
import Derived.Test.YtgogodeknkoalaaGreatDoorX15
import Derived.Test.YtgogodeknkoalaaGreatDoorX20
namespace Go.Proofs.YtgogodeknkoalaaGreatDoor.Sv
open Go Go.Sv Go.Proofs Go.Rd
set_option linter.unusedVariables false
set_option maxRecDepth 100000
@[reducible] def dfr0 : Dfr where
  d_plot_Over := fun _ _ => none
  d_move_ways := none
  d_move_Text := fun _ => none
theorem callOver : Callable Tryz.prog 32 := ⟨Tryz.f32, Tryz.func32, by kernel_rfl, by kernel_rfl⟩
theorem callWays : Callable Tryz.prog 22 := ⟨Tryz.f22, Tryz.func22, by kernel_rfl, by kernel_rfl⟩
theorem callText : Callable Tryz.prog 17 := ⟨Tryz.f17, Tryz.func17, by kernel_rfl, by kernel_rfl⟩
theorem ok0 : @DfrOK dfr0 :=
  letI := dfr0
  {
  c_plot_Over := ⟨callOver, fun x r h => by cases h⟩
  c_move_ways := ⟨callWays, fun x r h => by cases h⟩
  c_move_Text := ⟨callText, fun x r h => by cases h⟩
  }
noncomputable instance topDfr : Dfr where
  d_plot_Over := over_spec
  d_move_ways := some tabW
  d_move_Text := text_spec
instance topOK : DfrOK where
  c_plot_Over := ⟨callOver, fun x r h => contract_any (@over_contract dfr0 ok0 x.1 x.2 r h)⟩
  c_move_ways := ⟨callWays, fun x r h => by cases h; exact @ways_contract topDfr⟩
  c_move_Text := ⟨callText, fun x r h => @text_contract topDfr x r h⟩
instance topOver : HasOver := ⟨fun _ _ => rfl⟩
instance topWays : HasWays := ⟨rfl⟩
instance topText : HasText := ⟨fun _ => rfl⟩
end Go.Proofs.YtgogodeknkoalaaGreatDoor.Sv
