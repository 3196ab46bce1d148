/- The name under which a printed row looks for the bound on a slice's length. -/
import Derived.Test.YtljpdpfflmoheaaWSized
namespace Go.Proofs.Ytljpdpfflmoheaa.PrintWords
theorem sized_ints : type_of% @Go.Proofs.YtljpdpfflmoheaaW.PrintWords.sized_ints := @Go.Proofs.YtljpdpfflmoheaaW.PrintWords.sized_ints
end Go.Proofs.Ytljpdpfflmoheaa.PrintWords
