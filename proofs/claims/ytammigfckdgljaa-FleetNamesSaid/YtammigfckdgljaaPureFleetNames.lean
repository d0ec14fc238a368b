/- The law FleetNames: called with nothing, the closed statement answers true. There are no conditions. -/
import Derived.Test.YtammigfckdgljaaPFleetNamesx1
namespace Go.Proofs.Ytammigfckdgljaa.Pure
open Go.RowKit Go.Proofs.Ytammigfckdgljaa.PFleetNames Go.Proofs.YtammigfckdgljaaW.PrintWords Go.Proofs.YtammigfckdgljaaW.PrintLast

/-- YOURS: eddylaw23_FleetNames.f  = some true
What it reaches (each with k first where it has rounds; `.mono`: more rounds tell the same; `.l0`, ..: its loops, with `.mono_l`): eddylaw23_FleetNames.f -/
theorem FleetNames : eddylaw23_FleetNames.Pure := rfl

end Go.Proofs.Ytammigfckdgljaa.Pure
