/- Two programs are the same just if all their numbers are; then their bytes are, too, and only then: the walk of CodeApart. -/
import Derived.Test.YtdgaklldijkoaaaWalkCodeApart
import Derived.Test.YtdgaklldijkoaaaCodeV
import Derived.OpenShut
namespace Go.Proofs.Ytdgaklldijkoaaa.Pure
open Go.RowKit Go.Proofs.Ytdgaklldijkoaaa.PCode
theorem CodeApart : PCode.CodeApart.Walk := by
  intro w v0 p0 h0 x0 v1 p1 h1 x1
  exact apart_any h0 x0 h1 x1
end Go.Proofs.Ytdgaklldijkoaaa.Pure
