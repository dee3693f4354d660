/- What was written is read as it was: the walk of CodeBack. -/
import Derived.Test.YtdgaklldijkoaaaWalkCodeBack
import Derived.Test.YtdgaklldijkoaaaCodeW
import Derived.OpenShut
namespace Go.Proofs.Ytdgaklldijkoaaa.Pure
open Go.RowKit Go.Proofs.Ytdgaklldijkoaaa.PCode
theorem CodeBack : PCode.CodeBack.Walk := by
  intro w v0 p0 h0 x0
  exact back_any h0 x0
end Go.Proofs.Ytdgaklldijkoaaa.Pure
