/- What is asked of plot.Over holds: the seat's contracts, whole. -/
-- NODFR
import Derived.Test.YtdbabacjmkfkgaaDoorX13
import Derived.Test.YtdbabacjmkfkgaaDoorW11
namespace Go.Proofs.YtdbabacjmkfkgaaDoor.Sv
open Go Go.Sv Go.Proofs Go.Rd
set_option linter.unusedVariables false
set_option maxRecDepth 100000

@[reducible] def dfr0 : Dfr := { d_plot_Over := fun _ _ => none }
theorem callOver : Callable Tryd.prog 24 := ⟨Tryd.f24, Tryd.func24, by kernel_rfl, by kernel_rfl⟩
theorem ok0 : @DfrOK dfr0 := @DfrOK.mk dfr0 ⟨callOver, fun x r h => by cases h⟩
noncomputable instance topDfr : Dfr := { d_plot_Over := over_spec }
instance topOK : DfrOK := ⟨⟨callOver, fun x r h => contract_any (@over_contract dfr0 ok0 x.1 x.2 r h)⟩⟩
instance topOver : HasOver := ⟨fun _ _ => rfl⟩
end Go.Proofs.YtdbabacjmkfkgaaDoor.Sv
