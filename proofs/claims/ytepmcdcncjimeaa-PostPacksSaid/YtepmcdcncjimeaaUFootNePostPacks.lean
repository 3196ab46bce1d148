-- OF THE PRINT'S WORDS (FootNe): those that this law's texts name (wip/prune.py)
import Derived.Test.YtepmcdcncjimeaaUNPostPacks
namespace Go.Proofs.YtepmcdcncjimeaaW.PrintWords
open Go.RowKit
namespace Kd
section
variable {α : Type} {d : Kd α} {W : World} {g n : Nat} {S ok : Nat → Prop} {A : Option Addr} {ad : Addr} {xs : List α}
end
end Kd
end Go.Proofs.YtepmcdcncjimeaaW.PrintWords

