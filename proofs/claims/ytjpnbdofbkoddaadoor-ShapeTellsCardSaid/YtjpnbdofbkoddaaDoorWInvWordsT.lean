import Derived.Test.YtjpnbdofbkoddaaDoorWInvT
import Derived.Test.YtjpnbdofbkoddaaDoorWFootNeT
namespace Go.Proofs.YtjpnbdofbkoddaaDoorW.PrintWords
open Go.RowKit
end Go.Proofs.YtjpnbdofbkoddaaDoorW.PrintWords
namespace Go.Proofs.YtjpnbdofbkoddaaDoorW.PrintLast
section
variable {ops : Array Oper} {a : Act} {o og : Oper} {g : Nat} {t : Tmp} {u : Bool}
end
end Go.Proofs.YtjpnbdofbkoddaaDoorW.PrintLast
