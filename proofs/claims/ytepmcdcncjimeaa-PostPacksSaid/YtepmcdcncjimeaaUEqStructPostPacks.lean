-- OF THE PRINT'S WORDS (EqStruct): those that this law's texts name (wip/prune.py)
import Derived.Test.YtepmcdcncjimeaaUWordsPostPacks
import Derived.Laws.StructEq
namespace Go.Proofs.YtepmcdcncjimeaaW.PrintWords
open Go.RowKit
section
variable {P : Program} {d : Nat} {xs ys : Array Value} {f : Field} {fs : List Field} {a b : Value} {r s : Bool} {w : World}
end
end Go.Proofs.YtepmcdcncjimeaaW.PrintWords

