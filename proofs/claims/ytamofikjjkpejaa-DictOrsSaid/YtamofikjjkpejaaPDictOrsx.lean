-- LAID BY this session's own printer (wip/pr): Lean checks it
import Derived.Test.YtamofikjjkpejaaPDictOrsx0
import Derived.Test.YtamofikjjkpejaaPDictOrsx1
import Derived.Test.YtamofikjjkpejaaPDictOrsx2
import Derived.Test.YtamofikjjkpejaaPDictOrsx3
import Derived.Test.YtamofikjjkpejaaPDictOrsx4
import Derived.Test.YtamofikjjkpejaaPDictOrsx5
import Derived.Test.YtamofikjjkpejaaPDictOrsx6
import Derived.Test.YtamofikjjkpejaaPDictOrsx7
import Derived.Test.YtamofikjjkpejaaPDictOrsx8
import Derived.Test.YtamofikjjkpejaaPDictOrsx9
import Derived.Test.YtamofikjjkpejaaDStr
namespace Go.Proofs.Ytamofikjjkpejaa.PDictOrs
open Go.RowKit Go.Proofs.YtamofikjjkpejaaW.PrintWords Go.Proofs.YtamofikjjkpejaaW.PrintLast Go.Proofs.YtamofikjjkpejaaW.PrintMore
attribute [local go_sem] max2_int min2_int max_two min_two max_three min_three max_four min_four   -- for this text's walks alone
set_option linter.unusedVariables false
set_option linter.unusedSimpArgs false

attribute [local go_sem] Go.Proofs.Ytamofikjjkpejaa.DStr.str_leq
end Go.Proofs.Ytamofikjjkpejaa.PDictOrs
