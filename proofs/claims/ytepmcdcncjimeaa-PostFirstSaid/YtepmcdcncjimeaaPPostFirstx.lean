-- LAID BY this session's own printer (wip/pr): Lean checks it
import Derived.Test.YtepmcdcncjimeaaPPostFirstx0
import Derived.Test.YtepmcdcncjimeaaPPostFirstx1
import Derived.Test.YtepmcdcncjimeaaPPostFirstx2
import Derived.Test.YtepmcdcncjimeaaPPostFirstx3
import Derived.Test.YtepmcdcncjimeaaPPostFirstx4
import Derived.Test.YtepmcdcncjimeaaPPostFirstx5
import Derived.Test.YtepmcdcncjimeaaPPostFirstx6
import Derived.Test.YtepmcdcncjimeaaPPostFirstx7
import Derived.Test.YtepmcdcncjimeaaPPostFirstx8
import Derived.Test.YtepmcdcncjimeaaPPostFirstx9
import Derived.Test.YtepmcdcncjimeaaPPostFirstx10
import Derived.Deep.RegionLaw
import Derived.Deep.RegionWith
import Derived.RangeFuncNested
import Derived.RangeFuncBound
import Derived.RangeFuncCalls
import Derived.RangeFuncLeaves
import Derived.RangeFuncFrom
import Derived.RangeFuncWrites
import Derived.RangeFuncBox
import Derived.Sort.LoopGhostIn
import Derived.OrdersIn
import Derived.TacticsInMore
import Derived.Shelf.Spec.SlicesInsert
import Derived.Shelf.Spec.SlicesInsertGrow
import Derived.Shelf.Abstract
import Derived.Test.YtepmcdcncjimeaaVList
namespace Go.Proofs.Ytepmcdcncjimeaa.PPostFirst
open Go.RowKit Go.Proofs.YtepmcdcncjimeaaW.PrintWords Go.Proofs.YtepmcdcncjimeaaW.PrintLast Go.Proofs.YtepmcdcncjimeaaW.PrintMore
attribute [local go_sem] max2_int min2_int max_two min_two max_three min_three max_four min_four   -- for this text's walks alone
set_option linter.unusedVariables false
set_option linter.unusedSimpArgs false

end Go.Proofs.Ytepmcdcncjimeaa.PPostFirst
