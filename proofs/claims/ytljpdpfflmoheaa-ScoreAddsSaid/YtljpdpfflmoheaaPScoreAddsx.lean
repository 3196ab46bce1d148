-- LAID BY this session's own printer (wip/pr): Lean checks it
import Derived.Test.YtljpdpfflmoheaaPScoreAddsx0
import Derived.Test.YtljpdpfflmoheaaPScoreAddsx1
import Derived.Test.YtljpdpfflmoheaaPScoreAddsx2
import Derived.Test.YtljpdpfflmoheaaPScoreAddsx3
import Derived.Test.YtljpdpfflmoheaaPScoreAddsx4
namespace Go.Proofs.Ytljpdpfflmoheaa.PScoreAdds
open Go.RowKit Go.Proofs.YtljpdpfflmoheaaW.PrintWords Go.Proofs.YtljpdpfflmoheaaW.PrintLast Go.Proofs.YtljpdpfflmoheaaW.PrintMore
attribute [local go_sem] max2_int min2_int max_two min_two max_three min_three max_four min_four   -- for this text's walks alone
set_option linter.unusedVariables false
set_option linter.unusedSimpArgs false

end Go.Proofs.Ytljpdpfflmoheaa.PScoreAdds
