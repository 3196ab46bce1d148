/- The name under which a printed row looks for the bound on a slice's length. -/
import Derived.Test.YtmgmpdlceepjdaaWSized
namespace Go.Proofs.Ytmgmpdlceepjdaa.PrintWords
theorem sized_ints : type_of% @Go.Proofs.YtmgmpdlceepjdaaW.PrintWords.sized_ints := @Go.Proofs.YtmgmpdlceepjdaaW.PrintWords.sized_ints
end Go.Proofs.Ytmgmpdlceepjdaa.PrintWords
