-- LAID BY this session's own printer (wip/pr): Lean checks it
import Derived.Test.YtamofikjjkpejaaPDictFindsx0
import Derived.Test.YtamofikjjkpejaaPDictFindsx1
import Derived.Test.YtamofikjjkpejaaPDictFindsx2
import Derived.Test.YtamofikjjkpejaaPDictFindsx3
import Derived.Test.YtamofikjjkpejaaPDictFindsx4
import Derived.Test.YtamofikjjkpejaaPDictFindsx5
import Derived.Test.YtamofikjjkpejaaPDictFindsx6
import Derived.Test.YtamofikjjkpejaaPDictFindsx7
import Derived.Test.YtamofikjjkpejaaDStr
import Derived.Test.YtamofikjjkpejaaDStrG
namespace Go.Proofs.Ytamofikjjkpejaa.PDictFinds
open Go.RowKit Go.Proofs.YtamofikjjkpejaaW.PrintWords Go.Proofs.YtamofikjjkpejaaW.PrintLast Go.Proofs.YtamofikjjkpejaaW.PrintMore
attribute [local go_sem] max2_int min2_int max_two min_two max_three min_three max_four min_four   -- for this text's walks alone
set_option linter.unusedVariables false
set_option linter.unusedSimpArgs false

attribute [local go_sem] Go.Proofs.Ytamofikjjkpejaa.DStr.str_leq Go.Proofs.Ytamofikjjkpejaa.DStr.str_gtr
end Go.Proofs.Ytamofikjjkpejaa.PDictFinds
