/- Who descends from whom: the walk of JoinUnder. -/
import Derived.Test.YtfllnpfikdhdbaaWalkJoinUnder
import Derived.Test.YtfllnpfikdhdbaaJoinV
namespace Go.Proofs.Ytfllnpfikdhdbaa.Pure
open Go.RowKit Go.Proofs.Ytfllnpfikdhdbaa.PProcs Go.Proofs.YtfllnpfikdhdbaaW.PrintWords
theorem JoinUnder : signalboxlaw10_JoinUnder.Walk := by
  intro a0 len0 cap0 z0 w w0 y0
  obtain ⟨l, rfl, hr, hm, hw, hc⟩ := ReadsInt.ofRowC w0
  exact junder_any w a0 cap0 l (Kd.C_of_reads (d := (0 : Int)) (h1 := fun _ => rfl) hr)
end Go.Proofs.Ytfllnpfikdhdbaa.Pure
