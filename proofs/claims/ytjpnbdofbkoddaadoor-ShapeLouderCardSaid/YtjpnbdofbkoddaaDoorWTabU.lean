import Derived.Test.YtjpnbdofbkoddaaDoorWLastU
import Derived.Test.YtjpnbdofbkoddaaDoorWWordsU
namespace Go.Proofs.YtjpnbdofbkoddaaDoorW.PrintLast
open Go.Proofs.YtjpnbdofbkoddaaDoorW.PrintWords (Aside0)
section
variable {md : Region.Mode} {ops : Array Oper} {T : Bool × List (List Nat × List Nat)} {l l' li lj lk : Array Bool} {ds : List Nat} {i j k : Nat}
end
end Go.Proofs.YtjpnbdofbkoddaaDoorW.PrintLast

