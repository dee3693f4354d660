/- Who joins goes on when the last one that it forked has ended: the walk of JoinWaits. -/
import Derived.Test.YtfllnpfikdhdbaaWalkJoinWaits
import Derived.Test.YtfllnpfikdhdbaaJoinF
namespace Go.Proofs.Ytfllnpfikdhdbaa.Pure
open Go.RowKit Go.Proofs.Ytfllnpfikdhdbaa.PProcs Go.Proofs.YtfllnpfikdhdbaaW.PrintWords
theorem JoinWaits : signalboxlaw10_JoinWaits.Walk := by
  intro a0 a1 len1 cap1 z1 a2 w w0 w1 y1 w2
  obtain ⟨l, rfl, hr, hm, hw, hc⟩ := ReadsInt.ofRowC w1
  exact waits_any w a0 a2 a1 cap1 l (Kd.C_of_reads (d := (0 : Int)) (h1 := fun _ => rfl) hr)
end Go.Proofs.Ytfllnpfikdhdbaa.Pure
