/- The name under which a printed row looks for the bound on a slice's length. -/
import Derived.Test.YtoedahdhlcagkaaWSized
namespace Go.Proofs.Ytoedahdhlcagkaa.PrintWords
theorem sized_ints : type_of% @Go.Proofs.YtoedahdhlcagkaaW.PrintWords.sized_ints := @Go.Proofs.YtoedahdhlcagkaaW.PrintWords.sized_ints
end Go.Proofs.Ytoedahdhlcagkaa.PrintWords
