/- The name under which a printed row looks for the bound on a slice's length. -/
import Derived.Test.YtamofikjjkpejaaWSized
namespace Go.Proofs.Ytamofikjjkpejaa.PrintWords
theorem sized_ints : type_of% @Go.Proofs.YtamofikjjkpejaaW.PrintWords.sized_ints := @Go.Proofs.YtamofikjjkpejaaW.PrintWords.sized_ints
end Go.Proofs.Ytamofikjjkpejaa.PrintWords
