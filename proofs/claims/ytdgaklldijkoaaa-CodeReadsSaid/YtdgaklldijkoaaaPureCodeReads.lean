/- Bytes are read just if they are some program's: the walk of CodeReads. -/
import Derived.Test.YtdgaklldijkoaaaWalkCodeReads
import Derived.Test.YtdgaklldijkoaaaCodeX
import Derived.OpenShut
namespace Go.Proofs.Ytdgaklldijkoaaa.Pure
open Go.RowKit Go.Proofs.Ytdgaklldijkoaaa.PCode
theorem CodeReads : PCode.CodeReads.Walk := by
  intro w A0 c0 l0 h0 k0 x0
  exact reads_any h0 k0 x0
end Go.Proofs.Ytdgaklldijkoaaa.Pure
