-- LAID BY this session's own printer (wip/pr): Lean checks it
import Derived.Test.YtjjdnefonmlanaaPLiveOrderx0
import Derived.Test.YtjjdnefonmlanaaPLiveOrderx1
import Derived.Test.YtjjdnefonmlanaaPLiveOrderx2
import Derived.Test.YtjjdnefonmlanaaPLiveOrderx3
import Derived.Test.YtjjdnefonmlanaaPLiveOrderx4
import Derived.Test.YtjjdnefonmlanaaPLiveOrderx5
namespace Go.Proofs.Ytjjdnefonmlanaa.PLiveOrder
open Go.RowKit Go.Proofs.YtjjdnefonmlanaaW.PrintWords Go.Proofs.YtjjdnefonmlanaaW.PrintLast Go.Proofs.YtjjdnefonmlanaaW.PrintMore
attribute [local go_sem] max2_int min2_int max_two min_two max_three min_three max_four min_four   -- for this text's walks alone
set_option linter.unusedVariables false
set_option linter.unusedSimpArgs false

end Go.Proofs.Ytjjdnefonmlanaa.PLiveOrder
