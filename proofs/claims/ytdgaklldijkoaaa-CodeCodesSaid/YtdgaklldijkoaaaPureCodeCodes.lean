/- A program is written byte by byte as it should be: the walk of CodeCodes. -/
import Derived.Test.YtdgaklldijkoaaaWalkCodeCodes
import Derived.Test.YtdgaklldijkoaaaCodeO
namespace Go.Proofs.Ytdgaklldijkoaaa.Pure
open Go.RowKit Go.Proofs.Ytdgaklldijkoaaa.PCode
theorem CodeCodes : PCode.CodeCodes.Walk := by
  intro w v0 p0 h0 _
  exact codes_any h0
end Go.Proofs.Ytdgaklldijkoaaa.Pure
