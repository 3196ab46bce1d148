-- LAID BY this session's own printer (wip/pr): Lean checks it
import Derived.Test.YtmgmpdlceepjdaaPVintRisesx0
import Derived.Test.YtmgmpdlceepjdaaPVintRisesx1
import Derived.Test.YtmgmpdlceepjdaaPVintRisesx2
import Derived.Test.YtmgmpdlceepjdaaPVintRisesx3
namespace Go.Proofs.Ytmgmpdlceepjdaa.PVintRises
open Go.RowKit Go.Proofs.YtmgmpdlceepjdaaW.PrintWords Go.Proofs.YtmgmpdlceepjdaaW.PrintLast Go.Proofs.YtmgmpdlceepjdaaW.PrintMore
attribute [local go_sem] max2_int min2_int max_two min_two max_three min_three max_four min_four   -- for this text's walks alone
set_option linter.unusedVariables false
set_option linter.unusedSimpArgs false

end Go.Proofs.Ytmgmpdlceepjdaa.PVintRises
