/- Who has ended stays so: the walk of ProcsStays. -/
import Derived.Test.YtfllnpfikdhdbaaWalkProcsStays
import Derived.Test.YtfllnpfikdhdbaaProcsT
namespace Go.Proofs.Ytfllnpfikdhdbaa.Pure
open Go.RowKit Go.Proofs.Ytfllnpfikdhdbaa.PProcs Go.Proofs.YtfllnpfikdhdbaaW.PrintWords
theorem ProcsStays : signalboxlaw8_ProcsStays.Walk := by
  intro a0 a1 len1 cap1 z1 w w0 w1
  exact stays_any w a0 a1 len1 cap1 z1 w1
end Go.Proofs.Ytfllnpfikdhdbaa.Pure
