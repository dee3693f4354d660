/- Of no table there is nothing: the walk of ProcsNothing. -/
import Derived.Test.YtfllnpfikdhdbaaWalkProcsNothing
import Derived.Test.YtfllnpfikdhdbaaProcsN
namespace Go.Proofs.Ytfllnpfikdhdbaa.Pure
open Go.RowKit Go.Proofs.Ytfllnpfikdhdbaa.PProcs
theorem ProcsNothing : signalboxlaw8_ProcsNothing.Walk := fun a0 a1 w _ _ => nothing_any w a0 a1
end Go.Proofs.Ytfllnpfikdhdbaa.Pure
