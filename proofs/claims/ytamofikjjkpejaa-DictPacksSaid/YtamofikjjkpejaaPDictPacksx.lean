-- LAID BY this session's own printer (wip/pr): Lean checks it
import Derived.Test.YtamofikjjkpejaaPDictPacksx0
import Derived.Test.YtamofikjjkpejaaPDictPacksx1
import Derived.Test.YtamofikjjkpejaaPDictPacksx2
import Derived.Test.YtamofikjjkpejaaPDictPacksx3
import Derived.Test.YtamofikjjkpejaaPDictPacksx4
import Derived.Test.YtamofikjjkpejaaPDictPacksx5
import Derived.Test.YtamofikjjkpejaaPDictPacksx6
import Derived.Test.YtamofikjjkpejaaPDictPacksx7
import Derived.Test.YtamofikjjkpejaaPDictPacksx8
import Derived.Test.YtamofikjjkpejaaPDictPacksx9
import Derived.Test.YtamofikjjkpejaaPDictPacksx10
import Derived.Test.YtamofikjjkpejaaPDictPacksx11
import Derived.Test.YtamofikjjkpejaaDConv
import Derived.Test.YtamofikjjkpejaaDStr
namespace Go.Proofs.Ytamofikjjkpejaa.PDictPacks
open Go.RowKit Go.Proofs.YtamofikjjkpejaaW.PrintWords Go.Proofs.YtamofikjjkpejaaW.PrintLast Go.Proofs.YtamofikjjkpejaaW.PrintMore
attribute [local go_sem] max2_int min2_int max_two min_two max_three min_three max_four min_four   -- for this text's walks alone
set_option linter.unusedVariables false
set_option linter.unusedSimpArgs false

attribute [local go_sem] Go.Proofs.Ytamofikjjkpejaa.DStr.str_leq
end Go.Proofs.Ytamofikjjkpejaa.PDictPacks
