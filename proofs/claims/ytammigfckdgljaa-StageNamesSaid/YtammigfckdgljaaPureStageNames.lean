/- The law StageNames: called with nothing, the closed statement answers true. There are no conditions. -/
import Derived.Test.YtammigfckdgljaaPStageNamesx1
namespace Go.Proofs.Ytammigfckdgljaa.Pure
open Go.RowKit Go.Proofs.Ytammigfckdgljaa.PStageNames Go.Proofs.YtammigfckdgljaaW.PrintWords Go.Proofs.YtammigfckdgljaaW.PrintLast

/-- YOURS: eddylaw8_StageNames.f  = some true
What it reaches (each with k first where it has rounds; `.mono`: more rounds tell the same; `.l0`, ..: its loops, with `.mono_l`): eddylaw8_StageNames.f -/
theorem StageNames : eddylaw8_StageNames.Pure := rfl

end Go.Proofs.Ytammigfckdgljaa.Pure
