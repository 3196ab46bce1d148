-- OF THE PRINT'S WORDS (InvWords): those that this law's texts name (wip/prune.py)
import Derived.Test.YtepmcdcncjimeaaUInvPostPacks
import Derived.Test.YtepmcdcncjimeaaUFootNePostPacks
namespace Go.Proofs.YtepmcdcncjimeaaW.PrintWords
open Go.RowKit
end Go.Proofs.YtepmcdcncjimeaaW.PrintWords
namespace Go.Proofs.YtepmcdcncjimeaaW.PrintLast
section
variable {ops : Array Oper} {a : Act} {o og : Oper} {g : Nat} {t : Tmp} {u : Bool}
end
end Go.Proofs.YtepmcdcncjimeaaW.PrintLast

