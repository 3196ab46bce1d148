-- LAID BY this session's own printer (wip/pr): Lean checks it
import Derived.Test.YtjjdnefonmlanaaPLivePacksx0
import Derived.Test.YtjjdnefonmlanaaPLivePacksx1
import Derived.Test.YtjjdnefonmlanaaPLivePacksx2
import Derived.Test.YtjjdnefonmlanaaPLivePacksx3
import Derived.Test.YtjjdnefonmlanaaPLivePacksx4
import Derived.Test.YtjjdnefonmlanaaPLivePacksx5
import Derived.Test.YtjjdnefonmlanaaPLivePacksx6
namespace Go.Proofs.Ytjjdnefonmlanaa.PLivePacks
open Go.RowKit Go.Proofs.YtjjdnefonmlanaaW.PrintWords Go.Proofs.YtjjdnefonmlanaaW.PrintLast Go.Proofs.YtjjdnefonmlanaaW.PrintMore
attribute [local go_sem] max2_int min2_int max_two min_two max_three min_three max_four min_four   -- for this text's walks alone
set_option linter.unusedVariables false
set_option linter.unusedSimpArgs false

end Go.Proofs.Ytjjdnefonmlanaa.PLivePacks
