/- What is asked of trace.Mix holds: the seat's contracts, whole. -/
-- NODFR
import Derived.Test.YthhefjmdfdckjaaGreatDoorX02
namespace Go.Proofs.YthhefjmdfdckjaaGreatDoor.Sv
open Go Go.Sv Go.Proofs Go.Rd
set_option linter.unusedVariables false
set_option maxRecDepth 100000

@[reducible] def dfr0 : Dfr := { d_trace_Mix := fun _ _ => none }
theorem callMix : Callable Tryz.prog 64 := ⟨Tryz.f64, Tryz.func64, by kernel_rfl, by kernel_rfl⟩

theorem ok0 : @DfrOK dfr0 := @DfrOK.mk dfr0 ⟨callMix, fun x r h => by cases h⟩

instance topDfr : Dfr := { d_trace_Mix := mix_spec }

instance topOK : DfrOK := ⟨⟨callMix, fun x r h => contract_any (@mix_contract dfr0 ok0 x.1 x.2 r h)⟩⟩

instance topMix : HasMix := ⟨fun _ _ => rfl⟩
end Go.Proofs.YthhefjmdfdckjaaGreatDoor.Sv
