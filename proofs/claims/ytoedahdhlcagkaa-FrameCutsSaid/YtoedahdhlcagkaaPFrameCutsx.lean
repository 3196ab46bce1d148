-- LAID BY this session's own printer (wip/pr): Lean checks it
import Derived.Test.YtoedahdhlcagkaaPFrameCutsx0
import Derived.Test.YtoedahdhlcagkaaPFrameCutsx1
import Derived.Test.YtoedahdhlcagkaaPFrameCutsx2
import Derived.Test.YtoedahdhlcagkaaPFrameCutsx3
import Derived.Test.YtoedahdhlcagkaaPFrameCutsx4
import Derived.Test.YtoedahdhlcagkaaPFrameCutsx5
namespace Go.Proofs.Ytoedahdhlcagkaa.PFrameCuts
open Go.RowKit Go.Proofs.YtoedahdhlcagkaaW.PrintWords Go.Proofs.YtoedahdhlcagkaaW.PrintLast Go.Proofs.YtoedahdhlcagkaaW.PrintMore
attribute [local go_sem] max2_int min2_int max_two min_two max_three min_three max_four min_four   -- for this text's walks alone
set_option linter.unusedVariables false
set_option linter.unusedSimpArgs false

end Go.Proofs.Ytoedahdhlcagkaa.PFrameCuts
