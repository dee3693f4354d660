/- Numbers rise from 1 on, none twice: the walk of ProcsNumbers. -/
import Derived.Test.YtfllnpfikdhdbaaWalkProcsNumbers
import Derived.Test.YtfllnpfikdhdbaaProcsQ
namespace Go.Proofs.Ytfllnpfikdhdbaa.Pure
open Go.RowKit Go.Proofs.Ytfllnpfikdhdbaa.PProcs Go.Proofs.YtfllnpfikdhdbaaW.PrintWords
theorem ProcsNumbers : signalboxlaw8_ProcsNumbers.Walk := by
  intro a0 a1 len1 cap1 z1 w w0 w1 y1
  obtain ⟨l, rfl, hr, hm, hw, hc⟩ := ReadsInt.ofRowC w1
  exact numbers_any w a0 a1 cap1 l (Kd.C_of_reads (d := (0 : Int)) (h1 := fun _ => rfl) hr)
end Go.Proofs.Ytfllnpfikdhdbaa.Pure
