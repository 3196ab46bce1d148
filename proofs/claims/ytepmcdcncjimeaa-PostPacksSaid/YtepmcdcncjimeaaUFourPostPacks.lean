-- OF THE PRINT'S WORDS (Four): those that this law's texts name (wip/prune.py)
import Derived.Test.YtepmcdcncjimeaaUTabPostPacks
namespace Go.Proofs.YtepmcdcncjimeaaW.PrintLast
section
variable {P : Program} {ops : Array Oper} {Q : Exit → Act → World → Prop} {md : Region.Mode} {S : World → Prop} {ds : List Nat} {T : Bool × List (List Nat × List Nat)}
end
end Go.Proofs.YtepmcdcncjimeaaW.PrintLast

