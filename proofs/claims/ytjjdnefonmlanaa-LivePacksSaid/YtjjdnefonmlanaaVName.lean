/- The name under which a printed row looks for the bound on a slice's length. -/
import Derived.Test.YtjjdnefonmlanaaWSized
namespace Go.Proofs.Ytjjdnefonmlanaa.PrintWords
theorem sized_ints : type_of% @Go.Proofs.YtjjdnefonmlanaaW.PrintWords.sized_ints := @Go.Proofs.YtjjdnefonmlanaaW.PrintWords.sized_ints
end Go.Proofs.Ytjjdnefonmlanaa.PrintWords
