/- Processes come, are blocked, woken, and end: the walk of ProcsPlays. -/
import Derived.Test.YtfllnpfikdhdbaaWalkProcsPlays
import Derived.Test.YtfllnpfikdhdbaaProcsY
namespace Go.Proofs.Ytfllnpfikdhdbaa.Pure
open Go.RowKit Go.Proofs.Ytfllnpfikdhdbaa.PProcs Go.Proofs.YtfllnpfikdhdbaaW.PrintWords
theorem ProcsPlays : signalboxlaw8_ProcsPlays.Walk := by
  intro a0 a1 len1 cap1 z1 w w0 w1
  exact plays_any w a0 a1 len1 cap1 z1 w1
end Go.Proofs.Ytfllnpfikdhdbaa.Pure
