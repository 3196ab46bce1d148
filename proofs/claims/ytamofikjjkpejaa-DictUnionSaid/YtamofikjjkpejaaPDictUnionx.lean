-- LAID BY this session's own printer (wip/pr): Lean checks it
import Derived.Test.YtamofikjjkpejaaPDictUnionx0
import Derived.Test.YtamofikjjkpejaaPDictUnionx1
import Derived.Test.YtamofikjjkpejaaPDictUnionx2
import Derived.Test.YtamofikjjkpejaaPDictUnionx3
import Derived.Test.YtamofikjjkpejaaPDictUnionx4
import Derived.Test.YtamofikjjkpejaaPDictUnionx5
import Derived.Test.YtamofikjjkpejaaPDictUnionx6
import Derived.Test.YtamofikjjkpejaaPDictUnionx7
import Derived.Test.YtamofikjjkpejaaDStr
namespace Go.Proofs.Ytamofikjjkpejaa.PDictUnion
open Go.RowKit Go.Proofs.YtamofikjjkpejaaW.PrintWords Go.Proofs.YtamofikjjkpejaaW.PrintLast Go.Proofs.YtamofikjjkpejaaW.PrintMore
attribute [local go_sem] max2_int min2_int max_two min_two max_three min_three max_four min_four   -- for this text's walks alone
set_option linter.unusedVariables false
set_option linter.unusedSimpArgs false

attribute [local go_sem] Go.Proofs.Ytamofikjjkpejaa.DStr.str_leq
end Go.Proofs.Ytamofikjjkpejaa.PDictUnion
