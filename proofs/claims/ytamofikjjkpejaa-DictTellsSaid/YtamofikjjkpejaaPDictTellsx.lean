-- LAID BY this session's own printer (wip/pr): Lean checks it
import Derived.Test.YtamofikjjkpejaaPDictTellsx0
import Derived.Test.YtamofikjjkpejaaPDictTellsx1
import Derived.Test.YtamofikjjkpejaaPDictTellsx2
import Derived.Test.YtamofikjjkpejaaPDictTellsx3
import Derived.Test.YtamofikjjkpejaaPDictTellsx4
import Derived.Test.YtamofikjjkpejaaPDictTellsx5
import Derived.Test.YtamofikjjkpejaaPDictTellsx6
import Derived.Test.YtamofikjjkpejaaPDictTellsx7
import Derived.Test.YtamofikjjkpejaaPDictTellsx8
import Derived.Test.YtamofikjjkpejaaPDictTellsx9
import Derived.Test.YtamofikjjkpejaaDStr
namespace Go.Proofs.Ytamofikjjkpejaa.PDictTells
open Go.RowKit Go.Proofs.YtamofikjjkpejaaW.PrintWords Go.Proofs.YtamofikjjkpejaaW.PrintLast Go.Proofs.YtamofikjjkpejaaW.PrintMore
attribute [local go_sem] max2_int min2_int max_two min_two max_three min_three max_four min_four   -- for this text's walks alone
set_option linter.unusedVariables false
set_option linter.unusedSimpArgs false

attribute [local go_sem] Go.Proofs.Ytamofikjjkpejaa.DStr.str_leq
end Go.Proofs.Ytamofikjjkpejaa.PDictTells
