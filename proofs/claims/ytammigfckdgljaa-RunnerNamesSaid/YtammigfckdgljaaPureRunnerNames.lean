/- The law RunnerNames: called with nothing, the closed statement answers true. There are no conditions. -/
import Derived.Test.YtammigfckdgljaaPRunnerNamesx1
namespace Go.Proofs.Ytammigfckdgljaa.Pure
open Go.RowKit Go.Proofs.Ytammigfckdgljaa.PRunnerNames Go.Proofs.YtammigfckdgljaaW.PrintWords Go.Proofs.YtammigfckdgljaaW.PrintLast

/-- YOURS: eddylaw16_RunnerNames.f  = some true
What it reaches (each with k first where it has rounds; `.mono`: more rounds tell the same; `.l0`, ..: its loops, with `.mono_l`): eddylaw16_RunnerNames.f -/
theorem RunnerNames : eddylaw16_RunnerNames.Pure := rfl

end Go.Proofs.Ytammigfckdgljaa.Pure
