/- The law WitnessNames: called with nothing, the closed statement answers true. There are no conditions. -/
import Derived.Test.YtammigfckdgljaaPWitnessNamesx1
namespace Go.Proofs.Ytammigfckdgljaa.Pure
open Go.RowKit Go.Proofs.Ytammigfckdgljaa.PWitnessNames Go.Proofs.YtammigfckdgljaaW.PrintWords Go.Proofs.YtammigfckdgljaaW.PrintLast

/-- YOURS: eddylaw18_WitnessNames.f  = some true
What it reaches (each with k first where it has rounds; `.mono`: more rounds tell the same; `.l0`, ..: its loops, with `.mono_l`): eddylaw18_WitnessNames.f -/
theorem WitnessNames : eddylaw18_WitnessNames.Pure := rfl

end Go.Proofs.Ytammigfckdgljaa.Pure
