/- The law FlowNames: called with nothing, the closed statement answers true. There are no conditions. -/
import Derived.Test.YtammigfckdgljaaPFlowNamesx1
namespace Go.Proofs.Ytammigfckdgljaa.Pure
open Go.RowKit Go.Proofs.Ytammigfckdgljaa.PFlowNames Go.Proofs.YtammigfckdgljaaW.PrintWords Go.Proofs.YtammigfckdgljaaW.PrintLast

/-- YOURS: eddylaw9_FlowNames.f  = some true
What it reaches (each with k first where it has rounds; `.mono`: more rounds tell the same; `.l0`, ..: its loops, with `.mono_l`): eddylaw9_FlowNames.f -/
theorem FlowNames : eddylaw9_FlowNames.Pure := rfl

end Go.Proofs.Ytammigfckdgljaa.Pure
