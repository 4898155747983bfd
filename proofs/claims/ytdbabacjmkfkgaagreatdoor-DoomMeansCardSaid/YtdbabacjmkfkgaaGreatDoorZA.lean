/- What is asked of the functions whose contracts are proved by hand holds: the seat's contracts, whole. -/
-- NODFR
import Derived.Test.YtdbabacjmkfkgaaGreatDoorX11
import Derived.Test.YtdbabacjmkfkgaaGreatDoorW11
import Derived.Test.YtdbabacjmkfkgaaGreatDoorX02
namespace Go.Proofs.YtdbabacjmkfkgaaGreatDoor.Sv
open Go Go.Sv Go.Proofs Go.Rd
set_option linter.unusedVariables false
set_option maxRecDepth 100000
@[reducible] def dfr0 : Dfr where
  d_plot_Over := fun _ _ => none
  d_trace_Mix := fun _ _ => none
theorem callOver : Callable Tryz.prog 26 := ⟨Tryz.f26, Tryz.func26, by kernel_rfl, by kernel_rfl⟩
theorem callMix : Callable Tryz.prog 100 := ⟨Tryz.f100, Tryz.func100, by kernel_rfl, by kernel_rfl⟩
theorem ok0 : @DfrOK dfr0 :=
  letI := dfr0
  {
  c_plot_Over := ⟨callOver, fun x r h => by cases h⟩
  c_trace_Mix := ⟨callMix, fun x r h => by cases h⟩
  }
noncomputable instance topDfr : Dfr where
  d_plot_Over := over_spec
  d_trace_Mix := mix_spec
instance topOK : DfrOK where
  c_plot_Over := ⟨callOver, fun x r h => contract_any (@over_contract dfr0 ok0 x.1 x.2 r h)⟩
  c_trace_Mix := ⟨callMix, fun x r h => contract_any (@mix_contract dfr0 ok0 x.1 x.2 r h)⟩
instance topOver : HasOver := ⟨fun _ _ => rfl⟩
instance topMix : HasMix := ⟨fun _ _ => rfl⟩
end Go.Proofs.YtdbabacjmkfkgaaGreatDoor.Sv
