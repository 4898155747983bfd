/- What is asked of trace.Mix holds: the seat's contracts, whole. -/
-- NODFR
import Derived.Test.YtlnpacehjfoffaaGreatDoorX02
namespace Go.Proofs.YtlnpacehjfoffaaGreatDoor.Sv
open Go Go.Sv Go.Proofs Go.Rd
set_option linter.unusedVariables false
set_option maxRecDepth 100000

@[reducible] def dfr0 : Dfr := { d_trace_Mix := fun _ _ => none }
theorem callMix : Callable Tryz.prog 83 := ⟨Tryz.f83, Tryz.func83, by kernel_rfl, by kernel_rfl⟩

theorem ok0 : @DfrOK dfr0 := @DfrOK.mk dfr0 ⟨callMix, fun x r h => by cases h⟩

instance topDfr : Dfr := { d_trace_Mix := mix_spec }

instance topOK : DfrOK := ⟨⟨callMix, fun x r h => contract_any (@mix_contract dfr0 ok0 x.1 x.2 r h)⟩⟩

instance topMix : HasMix := ⟨fun _ _ => rfl⟩
end Go.Proofs.YtlnpacehjfoffaaGreatDoor.Sv
