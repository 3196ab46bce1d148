-- LAID BY this session's own printer (wip/pr): Lean checks it
import Derived.Test.YtjjdnefonmlanaaProg
import Derived.Below
import Derived.Deep.Draws
import Derived.Deep.AppendLies
import Derived.Maps.AppendAt
import Derived.OwnWalk
import Derived.Laws.BytesArg
import Derived.Laws.MakeOwn
import Derived.Laws.OwnMore
import Derived.Deep.OwnRows
import Derived.Tactics
import Derived.Lib.ConvBytes
import Derived.Laws.Slices
import Derived.WalkKit
import Derived.KernelRfl
import Derived.RowKit3
import Derived.Deep.LoopGhost
import Derived.Deep.QuietTactic
import Derived.BigQuiet
import Derived.WideLaws
import Derived.Deep.DeepCutAuto
import Derived.Deep.CutBlock
import Derived.Deep.RegionHeld3
import Derived.Laws.Rows
import Derived.Lib.AppendStr
import Derived.ArgAppend
import Derived.Laws.IdiomCopy
import Derived.OrdersHeld
import Derived.Laws.BitsLemmas
import Derived.RowKit
import Derived.Lib.SliceRun
import Derived.Laws.Externs
import Derived.Laws.Cover3
import Derived.Laws.CopyOwn
import Derived.Lib.Walk
import Derived.Test.YtjjdnefonmlanaaWWords
import Derived.Test.YtjjdnefonmlanaaWLast
import Derived.Test.YtjjdnefonmlanaaWTab
import Derived.Test.YtjjdnefonmlanaaWFour
import Derived.Test.YtjjdnefonmlanaaWQPut
import Derived.Test.YtjjdnefonmlanaaWApart
import Derived.Test.YtjjdnefonmlanaaWArr
import Derived.Test.YtjjdnefonmlanaaWZeros
import Derived.Test.YtjjdnefonmlanaaWFoot
import Derived.Test.YtjjdnefonmlanaaWKept
import Derived.Test.YtjjdnefonmlanaaWShare
import Derived.Test.YtjjdnefonmlanaaWN
import Derived.Test.YtjjdnefonmlanaaWFootNe
import Derived.Test.YtjjdnefonmlanaaWAt
import Derived.Test.YtjjdnefonmlanaaWEqStruct
import Derived.Test.YtjjdnefonmlanaaWRepsOne
import Derived.Test.YtjjdnefonmlanaaWInv
import Derived.Test.YtjjdnefonmlanaaWInvWords
import Derived.Test.YtjjdnefonmlanaaWGuard
import Derived.Test.YtjjdnefonmlanaaWNEv
import Derived.Test.YtjjdnefonmlanaaWMore
namespace Go.Proofs.Ytjjdnefonmlanaa.PLivePacks
open Go.RowKit Go.Proofs.YtjjdnefonmlanaaW.PrintWords Go.Proofs.YtjjdnefonmlanaaW.PrintLast Go.Proofs.YtjjdnefonmlanaaW.PrintMore
attribute [local go_sem] max2_int min2_int max_two min_two max_three min_three max_four min_four   -- for this text's walks alone
set_option linter.unusedVariables false
set_option linter.unusedSimpArgs false



def errW : Option Int → Value
 | none => .nilIface
 | some c => .iface 0 (.int .i64 c)
theorem errW_none : errW none = .nilIface := rfl
theorem errW_some (c : Int) : errW (some c) = .iface 0 (.int .i64 c) := rfl

theorem info3 : (Try.prog.info? 3).map (fun i => (i.zero, i.size, i.bytes)) = some (some (.int .i64 0), 1, 8) := by kernel_rfl
theorem info4 : (Try.prog.info? 4).map (fun i => (i.zero, i.size, i.bytes)) = some (some (.bool false), 1, 1) := by kernel_rfl
theorem info5 : (Try.prog.info? 5).map (fun i => (i.zero, i.size, i.bytes)) = some (some (.int .u8 0), 1, 1) := by kernel_rfl
-- the values' own types

end Go.Proofs.Ytjjdnefonmlanaa.PLivePacks
