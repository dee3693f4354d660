-- PRINTED BY print.sh 35421559b90ae4d0a3588c463048766b98c2df88dd9212a6774a882060cdf62d: not written by this session
import Derived.Test.YtdgaklldijkoaaaWInv
import Derived.Test.YtdgaklldijkoaaaWFootNe
namespace Go.Proofs.YtdgaklldijkoaaaW.PrintWords
open Go.RowKit
end Go.Proofs.YtdgaklldijkoaaaW.PrintWords
namespace Go.Proofs.YtdgaklldijkoaaaW.PrintLast
section
variable {ops : Array Oper} {a : Act} {o og : Oper} {g : Nat} {t : Tmp} {u : Bool}
end
end Go.Proofs.YtdgaklldijkoaaaW.PrintLast
