-- LAID BY this session's own printer (wip/pr): Lean checks it
import Derived.Test.YtljpdpfflmoheaaPScoreOrderx0
import Derived.Test.YtljpdpfflmoheaaPScoreOrderx1
import Derived.Test.YtljpdpfflmoheaaPScoreOrderx2
import Derived.Test.YtljpdpfflmoheaaPScoreOrderx3
import Derived.Test.YtljpdpfflmoheaaPScoreOrderx4
namespace Go.Proofs.Ytljpdpfflmoheaa.PScoreOrder
open Go.RowKit Go.Proofs.YtljpdpfflmoheaaW.PrintWords Go.Proofs.YtljpdpfflmoheaaW.PrintLast Go.Proofs.YtljpdpfflmoheaaW.PrintMore
attribute [local go_sem] max2_int min2_int max_two min_two max_three min_three max_four min_four   -- for this text's walks alone
set_option linter.unusedVariables false
set_option linter.unusedSimpArgs false

end Go.Proofs.Ytljpdpfflmoheaa.PScoreOrder
