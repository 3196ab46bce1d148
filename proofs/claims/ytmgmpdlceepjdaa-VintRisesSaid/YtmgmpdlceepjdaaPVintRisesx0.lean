-- LAID BY this session's own printer (wip/pr): Lean checks it
import Derived.Test.YtmgmpdlceepjdaaProg
import Derived.Below
import Derived.Deep.Draws
import Derived.Deep.AppendLies
import Derived.Maps.AppendAt
import Derived.OwnWalk
import Derived.Laws.BytesArg
import Derived.Laws.MakeOwn
import Derived.Laws.OwnMore
import Derived.Deep.OwnRows
import Derived.Tactics
import Derived.Lib.ConvBytes
import Derived.Laws.Slices
import Derived.WalkKit
import Derived.KernelRfl
import Derived.RowKit3
import Derived.Deep.LoopGhost
import Derived.Deep.QuietTactic
import Derived.BigQuiet
import Derived.WideLaws
import Derived.Deep.DeepCutAuto
import Derived.Deep.CutBlock
import Derived.Deep.RegionHeld3
import Derived.Laws.Rows
import Derived.Lib.AppendStr
import Derived.ArgAppend
import Derived.Laws.IdiomCopy
import Derived.OrdersHeld
import Derived.Laws.BitsLemmas
import Derived.RowKit
import Derived.Test.YtmgmpdlceepjdaaWWords
import Derived.Test.YtmgmpdlceepjdaaWLast
import Derived.Test.YtmgmpdlceepjdaaWTab
import Derived.Test.YtmgmpdlceepjdaaWFour
import Derived.Test.YtmgmpdlceepjdaaWQPut
import Derived.Test.YtmgmpdlceepjdaaWApart
import Derived.Test.YtmgmpdlceepjdaaWArr
import Derived.Test.YtmgmpdlceepjdaaWZeros
import Derived.Test.YtmgmpdlceepjdaaWFoot
import Derived.Test.YtmgmpdlceepjdaaWKept
import Derived.Test.YtmgmpdlceepjdaaWShare
import Derived.Test.YtmgmpdlceepjdaaWN
import Derived.Test.YtmgmpdlceepjdaaWFootNe
import Derived.Test.YtmgmpdlceepjdaaWAt
import Derived.Test.YtmgmpdlceepjdaaWEqStruct
import Derived.Test.YtmgmpdlceepjdaaWRepsOne
import Derived.Test.YtmgmpdlceepjdaaWInv
import Derived.Test.YtmgmpdlceepjdaaWInvWords
import Derived.Test.YtmgmpdlceepjdaaWGuard
import Derived.Test.YtmgmpdlceepjdaaWNEv
import Derived.Test.YtmgmpdlceepjdaaWMore
namespace Go.Proofs.Ytmgmpdlceepjdaa.PVintRises
open Go.RowKit Go.Proofs.YtmgmpdlceepjdaaW.PrintWords Go.Proofs.YtmgmpdlceepjdaaW.PrintLast Go.Proofs.YtmgmpdlceepjdaaW.PrintMore
attribute [local go_sem] max2_int min2_int max_two min_two max_three min_three max_four min_four   -- for this text's walks alone
set_option linter.unusedVariables false
set_option linter.unusedSimpArgs false



def errW : Option Int → Value
  | none => .nilIface
  | some c => .iface 0 (.int .i64 c)
theorem errW_none : errW none = .nilIface := rfl
theorem errW_some (c : Int) : errW (some c) = .iface 0 (.int .i64 c) := rfl

theorem info3 : (Try.prog.info? 3).map (fun i => (i.zero, i.size, i.bytes)) = some (some (.int .i64 0), 1, 8) := by kernel_rfl
theorem info5 : (Try.prog.info? 5).map (fun i => (i.zero, i.size, i.bytes)) = some (some (.int .u8 0), 1, 1) := by kernel_rfl
-- the values' own types

end Go.Proofs.Ytmgmpdlceepjdaa.PVintRises
