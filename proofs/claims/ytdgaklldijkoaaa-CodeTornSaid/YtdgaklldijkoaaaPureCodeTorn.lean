/- Bytes that are cut short, or have one more, are no program's: the walk of CodeTorn. -/
import Derived.Test.YtdgaklldijkoaaaWalkCodeTorn
import Derived.Test.YtdgaklldijkoaaaCodeS
import Derived.OpenShut
namespace Go.Proofs.Ytdgaklldijkoaaa.Pure
open Go.RowKit Go.Proofs.Ytdgaklldijkoaaa.PCode
theorem CodeTorn : PCode.CodeTorn.Walk := by
  intro w v0 p0 h0 x0 a1 _ a2 x2
  exact torn_any h0 x0 (bounds_u8 x2)
end Go.Proofs.Ytdgaklldijkoaaa.Pure
