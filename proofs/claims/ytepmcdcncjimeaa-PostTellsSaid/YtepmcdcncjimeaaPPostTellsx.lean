-- LAID BY this session's own printer (wip/pr): Lean checks it
import Derived.Test.YtepmcdcncjimeaaPPostTellsx0
import Derived.Test.YtepmcdcncjimeaaPPostTellsx1
import Derived.Test.YtepmcdcncjimeaaPPostTellsx2
import Derived.Test.YtepmcdcncjimeaaPPostTellsx3
import Derived.Test.YtepmcdcncjimeaaPPostTellsx4
import Derived.Test.YtepmcdcncjimeaaPPostTellsx5
import Derived.Test.YtepmcdcncjimeaaPPostTellsx6
import Derived.Test.YtepmcdcncjimeaaPPostTellsx7
import Derived.Test.YtepmcdcncjimeaaPPostTellsx8
import Derived.Test.YtepmcdcncjimeaaPPostTellsx9
import Derived.Test.YtepmcdcncjimeaaPPostTellsx10
import Derived.Test.YtepmcdcncjimeaaPPostTellsx11
import Derived.Deep.RegionLaw
import Derived.Deep.RegionWith
import Derived.RangeFuncNested
import Derived.RangeFuncBound
import Derived.RangeFuncCalls
import Derived.RangeFuncLeaves
import Derived.RangeFuncFrom
import Derived.RangeFuncWrites
import Derived.RangeFuncBox
import Derived.Sort.LoopGhostIn
import Derived.OrdersIn
import Derived.TacticsInMore
import Derived.Shelf.Spec.SlicesInsert
import Derived.Shelf.Spec.SlicesInsertGrow
import Derived.Shelf.Abstract
import Derived.Test.YtepmcdcncjimeaaVList
namespace Go.Proofs.Ytepmcdcncjimeaa.PPostTells
open Go.RowKit Go.Proofs.YtepmcdcncjimeaaW.PrintWords Go.Proofs.YtepmcdcncjimeaaW.PrintLast Go.Proofs.YtepmcdcncjimeaaW.PrintMore
attribute [local go_sem] max2_int min2_int max_two min_two max_three min_three max_four min_four   -- for this text's walks alone
set_option linter.unusedVariables false
set_option linter.unusedSimpArgs false

end Go.Proofs.Ytepmcdcncjimeaa.PPostTells
