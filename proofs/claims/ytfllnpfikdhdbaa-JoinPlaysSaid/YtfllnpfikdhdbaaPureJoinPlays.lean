/- Who forks, joins and ends: the walk of JoinPlays. -/
import Derived.Test.YtfllnpfikdhdbaaWalkJoinPlays
import Derived.Test.YtfllnpfikdhdbaaJoinN
namespace Go.Proofs.Ytfllnpfikdhdbaa.Pure
open Go.RowKit Go.Proofs.Ytfllnpfikdhdbaa.PProcs Go.Proofs.YtfllnpfikdhdbaaW.PrintWords
theorem JoinPlays : signalboxlaw10_JoinPlays.Walk := by
  intro a0 len0 cap0 z0 w w0
  exact jplays_any w a0 len0 cap0 z0 w0
end Go.Proofs.Ytfllnpfikdhdbaa.Pure
