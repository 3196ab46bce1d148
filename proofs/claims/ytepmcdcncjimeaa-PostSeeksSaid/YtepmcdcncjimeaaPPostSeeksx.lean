-- LAID BY this session's own printer (wip/pr): Lean checks it
import Derived.Test.YtepmcdcncjimeaaPPostSeeksx0
import Derived.Test.YtepmcdcncjimeaaPPostSeeksx1
import Derived.Test.YtepmcdcncjimeaaPPostSeeksx2
import Derived.Test.YtepmcdcncjimeaaPPostSeeksx3
import Derived.Test.YtepmcdcncjimeaaPPostSeeksx4
import Derived.Test.YtepmcdcncjimeaaPPostSeeksx5
import Derived.Test.YtepmcdcncjimeaaPPostSeeksx6
import Derived.Test.YtepmcdcncjimeaaPPostSeeksx7
import Derived.Test.YtepmcdcncjimeaaPPostSeeksx8
import Derived.Test.YtepmcdcncjimeaaPPostSeeksx9
import Derived.Test.YtepmcdcncjimeaaPPostSeeksx10
import Derived.Test.YtepmcdcncjimeaaPPostSeeksx11
import Derived.Test.YtepmcdcncjimeaaPPostSeeksx12
import Derived.Test.YtepmcdcncjimeaaPPostSeeksx13
import Derived.Deep.RegionLaw
import Derived.Deep.RegionWith
import Derived.RangeFuncNested
import Derived.RangeFuncBound
import Derived.RangeFuncCalls
import Derived.RangeFuncLeaves
import Derived.RangeFuncFrom
import Derived.RangeFuncWrites
import Derived.RangeFuncBox
import Derived.Sort.LoopGhostIn
import Derived.OrdersIn
import Derived.TacticsInMore
import Derived.Shelf.Spec.SlicesInsert
import Derived.Shelf.Spec.SlicesInsertGrow
import Derived.Shelf.Abstract
import Derived.Test.YtepmcdcncjimeaaVListPostSeeksU
namespace Go.Proofs.Ytepmcdcncjimeaa.PPostSeeks
open Go.RowKit Go.Proofs.YtepmcdcncjimeaaW.PrintWords Go.Proofs.YtepmcdcncjimeaaW.PrintLast Go.Proofs.YtepmcdcncjimeaaW.PrintMore
attribute [local go_sem] max2_int min2_int max_two min_two max_three min_three max_four min_four   -- for this text's walks alone
set_option linter.unusedVariables false
set_option linter.unusedSimpArgs false

end Go.Proofs.Ytepmcdcncjimeaa.PPostSeeks
