-- LAID BY this session's own printer (wip/pr): Lean checks it
import Derived.Test.YtoedahdhlcagkaaPFrameTurnedx0
import Derived.Test.YtoedahdhlcagkaaPFrameTurnedx1
import Derived.Test.YtoedahdhlcagkaaPFrameTurnedx2
import Derived.Test.YtoedahdhlcagkaaPFrameTurnedx3
import Derived.Test.YtoedahdhlcagkaaPFrameTurnedx4
import Derived.Test.YtoedahdhlcagkaaPFrameTurnedx5
namespace Go.Proofs.Ytoedahdhlcagkaa.PFrameTurned
open Go.RowKit Go.Proofs.YtoedahdhlcagkaaW.PrintWords Go.Proofs.YtoedahdhlcagkaaW.PrintLast Go.Proofs.YtoedahdhlcagkaaW.PrintMore
attribute [local go_sem] max2_int min2_int max_two min_two max_three min_three max_four min_four   -- for this text's walks alone
set_option linter.unusedVariables false
set_option linter.unusedSimpArgs false

end Go.Proofs.Ytoedahdhlcagkaa.PFrameTurned
