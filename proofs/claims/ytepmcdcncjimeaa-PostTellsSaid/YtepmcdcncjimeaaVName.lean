/- The name under which a printed row looks for the bound on a slice's length. -/
import Derived.Test.YtepmcdcncjimeaaWSized
namespace Go.Proofs.Ytepmcdcncjimeaa.PrintWords
theorem sized_ints : type_of% @Go.Proofs.YtepmcdcncjimeaaW.PrintWords.sized_ints := @Go.Proofs.YtepmcdcncjimeaaW.PrintWords.sized_ints
end Go.Proofs.Ytepmcdcncjimeaa.PrintWords
